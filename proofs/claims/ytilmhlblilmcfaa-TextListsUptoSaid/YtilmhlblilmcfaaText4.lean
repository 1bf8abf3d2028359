import Derived.Test.YtilmhlblilmcfaaText3
import Derived.Test.YtilmhlblilmcfaaRange
namespace Go.Proofs.Ytilmhlblilmcfaa
open Go.RowKit Go.Shelf
set_option linter.unusedVariables false
attribute [local go_sem] Oper.semAt_some
def restL (sep : List UInt8) : Nat → List UInt8 → List UInt8
  | 0, s => s
  | k + 1, s => restL sep k (Lib.cut s sep).2.1
theorem restL_succ (sep : List UInt8) : ∀ (k : Nat) (s : List UInt8), restL sep (k + 1) s = (Lib.cut (restL sep k s) sep).2.1
  | 0, _ => rfl
  | k + 1, s => restL_succ sep k _
theorem cut_len (s sep : List UInt8) : (Lib.cut s sep).2.1.length ≤ s.length := by
  unfold Lib.cut; split
  · simp
  · simp
theorem restL_len (sep : List UInt8) : ∀ (k : Nat) (s : List UInt8), (restL sep k s).length ≤ s.length
  | 0, _ => Nat.le_refl _
  | k + 1, s => Nat.le_trans (restL_len sep k _) (cut_len s sep)
def pieceS (s sep : List UInt8) (k : Nat) : ByteArray := ⟨(Lib.cut (restL sep k s) sep).1.toArray⟩
def foundS (s sep : List UInt8) (k : Nat) : Bool := (Lib.cut (restL sep k s) sep).2.2
def restB (s sep : List UInt8) (k : Nat) : ByteArray := ⟨(restL sep k s).toArray⟩
def StP (c1 : Nat) (W W' : World) : Prop := (∃ v, W' = W.setCell ⟨c1, 0, none⟩ v) ∨ (∃ m, W' = W.drewN m)
def KpP (c1 c2 : Nat) (W W' : World) : Prop := ∀ b, (b = c1 ∨ b = c2 ∨ b = 0) → W'.heap[b]? = W.heap[b]?
def EndP (J Jx : Nat → World → Prop) (n : Nat) (e : Ending) (W' : World) : Prop := (∃ v, e = .returned v) ∧ (J n W' ∨ ∃ k, k ≤ n ∧ Jx k W')
def leftP (c1 : Nat) (w : World) : Nat := match w.cell? ⟨c1, 0, none⟩ with | some (.string s) => s.size | _ => 0
theorem leftP_eq {c1 : Nat} {w : World} {s : ByteArray} (h : w.cell? ⟨c1, 0, none⟩ = some (.string s)) : leftP c1 w = s.size := by unfold leftP; rw [h]
theorem cut_shrinks (s sep : List UInt8) (hs : sep ≠ []) (h : (Lib.cut s sep).2.2 = true) : (Lib.cut s sep).2.1.length < s.length := by
  unfold Lib.cut at h ⊢
  split
  · rename_i h0
    have h1 := Lib.index_le s sep
    have h2 : 0 < sep.length := List.length_pos_iff.2 hs
    by_cases h3 : s = []
    · subst h3; cases sep with
      | nil => exact absurd rfl hs
      | cons a l => simp [Lib.index] at h0
    · have : 0 < s.length := List.length_pos_iff.2 h3
      simp only [List.length_drop]; omega
  · rename_i h0; rw [if_neg h0] at h; cases h
def RelP (s sep : List UInt8) (n c1 c2 : Nat) (m : Int) (J : Nat → World → Prop) (wr : World) : Prop :=
  ∃ k, k < n ∧ J k wr ∧ wr.heap[c1]? = some (.cells #[.string (restB s sep k)] 9 (0, 0)) ∧ wr.heap[c2]? = some (.cells #[.string ⟨sep.toArray⟩] 9 (0, 0)) ∧ wr.cell? ⟨0, 0, none⟩ = some (.int .i64 m)
theorem cut_at (s sep : List UInt8) (k : Nat) (m : Int) (w : World) (hs : s.length < 4294967281) (hm : w.cell? ⟨0, 0, none⟩ = some (.int .i64 m)) :
    Calls Try.prog 49 #[.string (restB s sep k), .string ⟨sep.toArray⟩] w fun e w' => e = .returned (.tuple #[.string (pieceS s sep k), .string (restB s sep (k + 1)), .bool (foundS s sep k)]) ∧ ∃ n, w' = w.drewN n := by
  refine (Try.strings_Cut (restB s sep k) ⟨sep.toArray⟩ m w (by have := restL_len sep k s; simp [restB, ByteArray.size]; omega) hm).mono ?_
  rintro e w' ⟨rfl, h⟩
  refine ⟨?_, h⟩
  simp only [restB, pieceS, foundS, restL_succ]
theorem restB_shrinks (s sep : List UInt8) (k : Nat) (hs : sep ≠ []) (h : foundS s sep k = true) : (restB s sep (k + 1)).size < (restB s sep k).size := by
  have := cut_shrinks (restL sep k s) sep hs h
  simp only [restB, ByteArray.size, restL_succ]; simpa using this
set_option maxHeartbeats 400000 in
theorem pieces_iter (s sep : List UInt8) (n c1 c2 : Nat) (m : Int) (w1 : World) (hsep : sep ≠ []) (hn : 0 < n) (hs : s.length < 4294967281)
    (hf : ∀ k, k + 1 < n → foundS s sep k = true) (hl : foundS s sep (n - 1) = false)
    (h1 : w1.heap[c1]? = some (.cells #[.string (restB s sep 0)] 9 (0, 0))) (h2 : w1.heap[c2]? = some (.cells #[.string ⟨sep.toArray⟩] 9 (0, 0)))
    (hm : w1.cell? ⟨0, 0, none⟩ = some (.int .i64 m)) (hne : c1 ≠ c2) (hc0 : c1 ≠ 0) :
    IterAt Try.prog 48 #[.pointer (some ⟨c1, 0, none⟩), .pointer (some ⟨c2, 0, none⟩)] (fun k => #[.string (pieceS s sep k)]) n (StP c1) (KpP c1 c2) w1 := by
  intro l J Jx hJ hJx hY h0
  show Calls _ _ _ _ (EndP J Jx n)
  refine (callsIn_wide (n := 8)).1 ?_
  refine callsIn_of_wp Try.func48 rfl trivial ?_ rfl
  simp only [Try.ntmps48, List.size_toArray, List.length_cons, List.length_nil, Nat.reduceAdd, Nat.reduceSub, Array.replicate_succ, Array.replicate_zero, List.push_toArray, List.append_toArray, List.nil_append, List.cons_append]
  gi_wp2
  gi_loopw [4] (fun _ wr => RelP s sep n c1 c2 m J wr) (fun _ wr => leftP c1 wr)
  case atStart => exact ⟨0, hn, h0, h1, h2, hm⟩
  case round =>
    obtain ⟨k, hk, hJ0, g1, g2, g3⟩ := hrel
    have q1 := cell_of_one g1
    have q2 := cell_of_one g2
    gi_wp2_with fail
    refine ⟨trivial, (callsIn_wide.2 (cut_at s sep k m _ hs g3)).mono ?_⟩
    rintro e w' ⟨rfl, nd, rfl⟩
    have hJ1 := hJ k wr (wr.drewN nd) hJ0 (.inr ⟨nd, rfl⟩)
    obtain ⟨fn, tmps, assign, body, hy, hR⟩ := hY k _ hk hJ1
    gi_wp2_with fail
    refine hR.mono ?_
    rintro e W' (⟨rfl, hJ2, hk2⟩ | ⟨rfl, hJx2⟩)
    · by_cases hfd : foundS s sep k = true
      · rw [hfd]
        have hkn : k + 1 < n := by
          rcases Nat.lt_or_ge (k + 1) n with h | h
          · exact h
          · have : k = n - 1 := by omega
            subst this; rw [hl] at hfd; cases hfd
        have d1 := (hk2 c1 (.inl rfl)).trans g1
        have d2 := (hk2 c2 (.inr (.inl rfl))).trans g2
        have d3 : W'.cell? ⟨0, 0, none⟩ = some (.int .i64 m) := (World.cell?_of_block (hk2 0 (.inr (.inr rfl)))).trans g3
        have p1 := cell_of_one d1
        have p2 := free_of_one d1
        have hq := Lib.hid (leftP_eq q1)
        have hsh := restB_shrinks s sep k hsep hfd
        clear g1 g2 g3 q1 q2 hk2 hy hR
        gi_wp2_with fail
        have e1 := one_setCell (u := .string (restB s sep (k + 1))) d1
        refine ⟨⟨k + 1, hkn, hJ _ _ _ hJ2 (.inl ⟨_, rfl⟩), e1, ?_, ?_⟩, ?_⟩
        · rw [Below.heap_setCell _ _ _ _ (Ne.symm hne)]; exact d2
        · rw [World.cell?_of_block (Below.heap_setCell _ _ _ _ (Ne.symm hc0))]; exact d3
        · rw [hq.out, leftP_eq (cell_of_one e1)]; exact hsh
      · have hfd' : foundS s sep k = false := by simpa using hfd
        rw [hfd']
        have hkn : k + 1 = n := by
          rcases Nat.lt_or_ge (k + 1) n with h | h
          · rw [hf k h] at hfd'; cases hfd'
          · omega
        clear g1 g2 g3 q1 q2 hk2 hy hR
        have HN := Lib.hid hkn
        clear hkn
        gi_wp2
        refine bodyPost_ret (results_none rfl _ _ _) rfl ?_
        exact ⟨⟨_, rfl⟩, .inl (HN.out ▸ hJ2)⟩
    · clear g1 g2 g3 q1 q2 hy hR
      gi_wp2
      refine bodyPost_ret (results_none rfl _ _ _) rfl ?_
      exact ⟨⟨_, rfl⟩, .inr ⟨k + 1, hk, hJx2⟩⟩
end Go.Proofs.Ytilmhlblilmcfaa
