/- Objects: numbers. -/
import Derived.Test.YtobcnffjfclolaaDoorLin4
import Derived.OwnWalk
namespace Go.Proofs.YtobcnffjfclolaaDoor
set_option linter.unusedSimpArgs false
open Go.RowKit
set_option linter.unusedVariables false
section
variable {w W : World} {Rs : List Res} {h : Nat} {H : HeapM}
set_option maxRecDepth 100000 in
set_option maxHeartbeats 1600000 in
theorem onumbers_ok (S : Sep w Rs W) (a : Option Addr) (c : Nat) (l : List V) (hs : ∀ W', Sep w Rs W' → SeesV W' (.slice a l.length c) l) (hl : l.length ≤ 4000001) :
    Calls Tryd.prog 49 #[.slice a l.length c] W fun e W' => ∃ v, e = .returned v ∧ Sep w (numsR v (l.map (·.n)) :: Rs) W' := by
  have HS := Lib.hid hs
  have HL := Lib.hid hl
  have hli : (l.length : Int) ≤ 4000001 := by omega
  have S0 := Lib.hid S
  obtain ⟨i0, hi, iz0, iz1, iz2⟩ := info_parts info_int64
  have hb2 : i0.bytes * l.length ≤ 281474976710656 := by rw [iz2]; exact Nat.le_trans (Nat.mul_le_mul_left 8 hl) (by omega)
  have hb3 : l.length ≤ maxLen := Nat.le_trans hl (by simp [maxLen])
  have HMK := Lib.hid (And.intro hb2 (And.intro hb3 (And.intro hi (And.intro iz0 iz1))))
  clear S hs hl hb2 hb3 hi iz0 iz1 iz2
  go_enter Tryd.func49, Tryd.ntmps49
  go_wp2_with (at_make; refine wpList_make_own W rfl _ _ 89 rfl 0 2 i0 _ 1 Tryd.underlying89 HMK.out.2.2.1 HMK.out.2.2.2.1 HMK.out.2.2.2.2 _ _ _ l.length rfl rfl rfl HMK.out.1 HMK.out.2.1 (Nat.zero_le _) ?_)
  intro w1 hown hgr
  have hB : Below W.heap.size W w1 := Outside.below_of (Below.refl _ _) (Outside.of_grown hgr) (by simp) (Nat.le_refl _)
  have S1 := Lib.hid (S0.out.addRow hB (e := 2) (m := 1) (f := intCell) (v := .slice (some ⟨W.heap.size, 0, none⟩) 0 l.length) (l := []) hown (by simp [Value.ownBlock]))
  clear hown hgr hB HMK S0
  go_wp2
  go_loopw [3, 11] (fun t i wr => ∃ k : Nat, k ≤ l.length ∧ i = .int .i64 k ∧ Sep w (numsR t ((l.take k).map (·.n)) :: Rs) wr) (fun _ i _ => l.length - (intOf i).toNat)
  case atStart => exact ⟨0, by omega, rfl, S1.out⟩
  case round =>
    clear S1
    obtain ⟨k, hk, rfl, S2⟩ := hrel
    obtain ⟨ta, tc, ht⟩ := (S2.row 0 rfl).form
    rw [ht] at S2 ⊢
    by_cases hlt : k < l.length
    · obtain ⟨x, hx⟩ : ∃ x, l[k]? = some x := ⟨l[k], by simp [hlt]⟩
      obtain ⟨_, _, e0, h1, h2, h3⟩ := HS.out wr S2.tail
      cases e0
      obtain ⟨g, o, rfl, hc⟩ : ∃ g o, a = some ⟨g, o, none⟩ ∧ ∀ i v, l[i]? = some v → wr.cell? ⟨g, o + i * 3, none⟩ = some (.int .i64 v.kind) ∧ wr.cell? ⟨g, o + i * 3 + 1, none⟩ = some (.int .i64 v.n) ∧ wr.cell? ⟨g, o + i * 3 + 2, none⟩ = some (.string v.s) := by
        rcases h3 with h | h
        · subst h; simp at hlt
        · exact h
      obtain ⟨c0, c1, c2⟩ := hc k x hx
      have hil : (k : Int) < l.length := by omega
      have hnx : (l.take (k + 1)).map (·.n) = (l.take k).map (·.n) ++ [x.n] := by rw [List.take_add_one, hx]; simp
      have hml : ((l.take k).map (·.n)).length ≤ 4000001 := by have := HL.out; simp; omega
      obtain ⟨M, hM⟩ : ∃ gx_, ((l.take k).map (·.n)) = gx_ := ⟨_, rfl⟩
      rw [hM] at S2 hnx hml ⊢
      have HX := Lib.hid (And.intro hnx (And.intro hlt hml))
      have S3 := S2.alloc (.cells #[.int .i64 x.kind, .int .i64 x.n, .string x.s] 31)
      have S4 := S3.alloc (.cells #[.int .i64 x.n] 2)
      have hone := sees_one (f := intCell) (m := 1) (y := x.n) (heapAllocNew (wr.alloc (.cells #[.int .i64 x.kind, .int .i64 x.n, .string x.s] 31)) (.cells #[.int .i64 x.n] 2)) rfl
      rw [World.size_alloc] at hone S4
      replace hone := Lib.hid hone
      replace S4 := Lib.hid S4
      clear hM S2 S3 hnx hlt hml hx hc h1 h2 h3 ht
      go_wp2_with (at_builtin; refine wpList_append_rows rfl _ _ 89 2 rfl Tryd.underlying89 _ 8 info_int64 rfl (by decide) (by decide) (fun _ => rfl) (by intro p u hu; simp [intCell] at hu; subst hu; rfl) S4.out 2 rfl rfl _ [x.n] rfl hone.out (by have := HX.out.2.2; simp; omega) ?_)
      intro va vc w5 S5
      have S6 : Sep w (numsR (.slice va (M.length + [x.n].length) vc) (M ++ [x.n]) :: Rs) w5 := S5.tail.tail
      replace S6 := Lib.hid S6
      clear S4 S5 hone c0 c1 c2
      go_wp2
      refine ⟨⟨k + 1, by have := HX.out.2.1; omega, by go_num, ?_⟩, by have := HX.out.2.1; simp [intOf]; omega⟩
      rw [HX.out.1]; exact S6.out
    · obtain rfl : k = l.length := by omega
      rw [List.take_length] at S2 ⊢
      replace S2 := Lib.hid S2
      clear hlt
      go_wp2
      go_ret
      exact ⟨_, rfl, S2.out⟩
end
end Go.Proofs.YtobcnffjfclolaaDoor
