import Derived.Test.YtilmhlblilmcfaaText10
import Derived.Test.YtilmhlblilmcfaaText5
namespace Go.Proofs.Ytilmhlblilmcfaa
open Go.RowKit
set_option linter.unusedVariables false
set_option maxHeartbeats 400000
theorem cut_none {s sep : List UInt8} (h : ∀ j, j ≤ s.length → Lib.occAt s sep j = false) : Lib.cut s sep = (s, [], false) := by
  unfold Lib.cut; rw [Lib.index_none h, if_neg (by omega)]
theorem cut_first {s sep : List UInt8} {i : Nat} (hi : i ≤ s.length) (h : Lib.occAt s sep i = true) (hn : ∀ j, j < i → Lib.occAt s sep j = false) : Lib.cut s sep = (s.take i, s.drop (i + sep.length), true) := by
  unfold Lib.cut; rw [Lib.index_first hi h hn, if_pos (by omega)]; simp
theorem occAt_drop (s sep : List UInt8) (f j : Nat) : Lib.occAt (s.drop f) sep j = Lib.occAt s sep (f + j) := by
  unfold Lib.occAt; rw [List.drop_drop]
def RelS (s sep : ByteArray) (w : World) (B : Nat) (v fr i : Value) (wr : World) : Prop :=
  ∃ k f j : Nat, fr = .int .i64 f ∧ i = .int .i64 j ∧ f ≤ j ∧ j ≤ s.size ∧ k ≤ f ∧ restL sep.data.toList k s.data.toList = s.data.toList.drop f ∧
    (∀ t, f ≤ t → t < j → Lib.occAt s.data.toList sep.data.toList t = false) ∧ (∀ t, t < k → foundS s.data.toList sep.data.toList t = true) ∧
    wr.ownsRow B 9 1 v k ((List.range k).map fun t => .string (pieceS s.data.toList sep.data.toList t)) ∧ (∃ g cap, v = .slice (some ⟨g, 0, none⟩) k cap) ∧ Below B w wr ∧ B ≤ wr.heap.size
def RefSplitPost (s sep : List UInt8) (w : World) (e : Ending) (w' : World) : Prop :=
  ∃ n, 0 < n ∧ (∀ k, k + 1 < n → foundS s sep k = true) ∧ foundS s sep (n - 1) = false ∧
   ((n ≤ 4096 ∧ SplitPost n s sep w e w') ∨ (4096 < n ∧ SplitMem w e w'))
set_option maxRecDepth 20000 in
theorem ref_split (s sep : ByteArray) (w : World) (hsep : 0 < sep.size) (hsep2 : sep.size ≤ maxLen) (hs : s.size < 4294967281) :
    Calls Try.prog 27 #[.string s, .string sep] w (RefSplitPost s.data.toList sep.data.toList w) := by
  have he := isE_of_pos sep hsep
  go_enter Try.func27, Try.ntmps27
  go_wp2
  obtain ⟨B, hB⟩ : ∃ B, w.heap.size = B := ⟨_, rfl⟩
  rw [hB]
  go_loopw [6, 7, 8] (fun v fr i wr => RelS s sep w B v fr i wr) (fun _ _ i _ => s.size - (intOf i).toNat)
  case atStart =>
    rw [← hB]
    exact ⟨0, 0, 0, rfl, rfl, by omega, by omega, by omega, rfl, fun t _ h => absurd h (Nat.not_lt_zero _), fun t h => absurd h (Nat.not_lt_zero _), World.ownsRow_lit w #[] 0 (Nat.le_refl _) (by unfold maxLen; omega) rfl, ⟨_, _, rfl⟩, (Below.refl _ _).alloc (Nat.le_refl _) _, by simp⟩
  case round =>
    obtain ⟨k, f, j, rfl, rfl, hfj, hj, hkf, hrest, hno, hfd, hown, ⟨g, cap, rfl⟩, hbe, hz⟩ := hrel
    obtain ⟨i0, hi, hz0, hz1, hz2⟩ := info_parts info_s
    have NO := Lib.hid hno
    have FD := Lib.hid hfd
    have RS := Lib.hid hrest
    clear hno hfd hrest
    have e1 : s.data.toList.length = s.size := rfl
    have e2 : sep.data.toList.length = sep.size := rfl
    by_cases hlt : j < s.size
    · go_wp2_with fail
      refine (ref_at s sep j _ (by unfold maxLen; clear e1 e2; omega) hsep2 (by omega)).mono ?_
      rintro e w' ⟨rfl, rfl⟩
      cases ho : Lib.occAt s.data.toList sep.data.toList j with
      | true =>
        have hroom : j + sep.size ≤ s.size := by
          rcases Lib.occAt_room ho with h | h
          · omega
          · rw [h] at e2; simp at e2; omega
        have hcut : Lib.cut (restL sep.data.toList k s.data.toList) sep.data.toList = ((s.data.toList.drop f).take (j - f), (s.data.toList.drop f).drop (j - f + sep.data.toList.length), true) := by
          rw [RS.out]
          exact cut_first (by rw [List.length_drop]; omega) (by rw [occAt_drop, show f + (j - f) = j by omega]; exact ho) (fun t ht => by rw [occAt_drop]; exact NO.out _ (by omega) (by omega))
        have hpiece : s.extract f j = pieceS s.data.toList sep.data.toList k := by
          unfold pieceS; rw [hcut, ← extract_list]
        have hfound : foundS s.data.toList sep.data.toList k = true := by unfold foundS; rw [hcut]
        have hrest2 : restL sep.data.toList (k + 1) s.data.toList = s.data.toList.drop (j + sep.size) := by
          rw [restL_succ, hcut, List.drop_drop, e2, show f + (j - f + sep.size) = j + sep.size by omega]
        have HP := Lib.hid hpiece
        have HF := Lib.hid hfound
        have HR := Lib.hid hrest2
        clear hcut hpiece hfound hrest2 ho e1 e2
        go_wp2_with (at_builtin; refine wpList_append_own _ rfl _ _ 31 rfl B 9 i0 (.string ⟨#[]⟩) 1 16 Try.underlying31 hi hz0 hz1 hz2 rfl (by decide) _ _ _ rfl (hown.alloc _) ⟨wr.heap.size, 0, none⟩ 1 1 [.string (s.extract f j)] rfl rfl ?c1 ?c2 ?c3 ?c4 ?c5 ?_)
        case c1 => exact cell_one_new _ _ _
        case c2 => simp [Value.oneCell']
        case c3 => unfold maxLen; omega
        case c4 => omega
        case c5 => simp; omega
        intro v' w1 hown' hgrow hn'
        have hb1 := (hbe.alloc hz _).grown hgrow (by simp; omega) (fun j e => (hown.lt j e).1)
        have hz1 : B ≤ w1.heap.size := by have := hgrow.size; simp at this; omega
        obtain ⟨g1, cap1, rfl⟩ := ownsRow_succ hown'
        clear hn'
        go_wp2
        refine ⟨⟨k + 1, j + sep.size, j + sep.size, by go_num, by go_num, by omega, by omega, by omega, HR.out, fun t h1 h2 => by omega, fun t ht => ?_, ?_, ⟨_, _, rfl⟩, hb1, hz1⟩, by simp [intOf]; omega⟩
        · by_cases e : t = k
          · subst e; exact HF.out
          · exact FD.out t (by omega)
        · rw [List.range_succ, List.map_append, List.map_singleton, ← HP.out]; exact hown'
      | false =>
        have N2 : Hid (∀ t, f ≤ t → t < j + 1 → Lib.occAt s.data.toList sep.data.toList t = false) := fun t h1 h2 => by
          by_cases e : t = j
          · subst e; exact ho
          · exact NO.out t h1 (by omega)
        clear e1 e2 ho
        go_wp2
        refine ⟨⟨k, f, j + 1, rfl, by go_num, by omega, by omega, by omega, RS.out, N2.out, FD.out, hown, ⟨_, _, rfl⟩, hbe, hz⟩, by simp [intOf]; omega⟩
    · obtain rfl : j = s.size := by omega
      have hcut : Lib.cut (restL sep.data.toList k s.data.toList) sep.data.toList = (s.data.toList.drop f, [], false) := by
        rw [RS.out]
        refine cut_none (fun t ht => ?_)
        rw [occAt_drop]
        rw [List.length_drop] at ht
        by_cases h1 : f + t < s.size
        · exact NO.out _ (by omega) h1
        · cases ho : Lib.occAt s.data.toList sep.data.toList (f + t) with
          | false => rfl
          | true =>
            rcases Lib.occAt_room ho with h | h
            · omega
            · rw [h] at e2; simp at e2; omega
      have hpiece : s.extract f s.size = pieceS s.data.toList sep.data.toList k := by
        unfold pieceS; rw [hcut]
        have := extract_list s f s.size
        rw [List.take_of_length_le (by rw [List.length_drop]; omega)] at this
        rw [← this]
      have hfound : foundS s.data.toList sep.data.toList (k + 1 - 1) = false := by unfold foundS; rw [Nat.add_sub_cancel, hcut]
      have HP := Lib.hid hpiece
      have HF := Lib.hid hfound
      clear hcut hpiece hfound e1 e2
      go_wp2_with (at_builtin; refine wpList_append_own _ rfl _ _ 31 rfl B 9 i0 (.string ⟨#[]⟩) 1 16 Try.underlying31 hi hz0 hz1 hz2 rfl (by decide) _ _ _ rfl (hown.alloc _) ⟨wr.heap.size, 0, none⟩ 1 1 [.string (s.extract f s.size)] rfl rfl ?c1 ?c2 ?c3 ?c4 ?c5 ?_)
      case c1 => exact cell_one_new _ _ _
      case c2 => simp [Value.oneCell']
      case c3 => unfold maxLen; omega
      case c4 => omega
      case c5 => simp; omega
      intro v' w1 hown' hgrow hn'
      have hb1 := (hbe.alloc hz _).grown hgrow (by simp; omega) (fun j e => (hown.lt j e).1)
      have hz1 : B ≤ w1.heap.size := by have := hgrow.size; simp at this; omega
      obtain ⟨g1, cap1, rfl⟩ := ownsRow_succ hown'
      clear hn'
      go_wp2
      · go_ret2
        refine ⟨k + 1, by omega, fun t ht => FD.out t (by omega), HF.out, .inr ⟨by omega, rfl, hB ▸ hb1⟩⟩
      · go_ret2
        refine ⟨k + 1, by omega, fun t ht => FD.out t (by omega), HF.out, .inl ⟨by omega, g1, cap1, rfl, ?_, ?_, ?_, ?_, hB ▸ hb1⟩⟩
        · intro t ht
          rw [hown'.cellAt t (by omega), HP.out, ← List.map_singleton (f := fun t => Value.string (pieceS s.data.toList sep.data.toList t)), ← List.map_append, ← List.range_succ]
          simp [ht]
        · rcases hown'.2 with ⟨h, _⟩ | ⟨g', cap', cur, h, _, _, h2, _⟩
          · cases h
          · cases h; exact h2
        · have := (hown'.lt g1 rfl).1; omega
        · exact (hown'.lt g1 rfl).2
end Go.Proofs.Ytilmhlblilmcfaa
