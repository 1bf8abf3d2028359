/- The heap: Replace, joined. -/
import Derived.Test.YtoancpjlkhijiaaHeap14
namespace Go.Proofs.Ytoancpjlkhijiaa
open Go.RowKit
set_option linter.unusedVariables false
set_option maxHeartbeats 800000 in
theorem heap_replace (w : World) (h : Nat) (v : V) (i j : Int) (sv : Value) (l : List V) {H : HeapM} {ε : Int → Int} {F : List Nat} (hh : HeapIs w h H ε F) (hs : SeesV w sv l) (hlen : (H.items v).length + l.length ≤ 4194304) :
    Calls Try.prog 14 #[.pointer (some ⟨h, 0, none⟩), v.val, .int .i64 i, .int .i64 j, sv] w fun e w' => e = .returned (.bool (H.canReplace v i j)) ∧ HeapPost h (H.replace v i j l) ε F w w' := by
  cases g : H.of v with
  | none =>
    have HO := Lib.hid (hh.of_none g)
    have HH := Lib.hid hh
    have e1 : H.canReplace v i j = false := by simp [HeapM.canReplace, g]
    have e2 : H.replace v i j l = H := by simp [HeapM.replace, g]
    rw [e1, e2]
    obtain ⟨sa, scap, rfl, hsa⟩ := hs
    clear hh g e1 e2 hsa hlen
    simp only [V.val] at HO ⊢
    go_enter Try.func14, Try.ntmps14
    go_wp2_with (go_at_call 45; refine (HO.out _ (by below_tac)).mono ?_; rintro e w1 ⟨rfl, hb1⟩; have hB : Below w.heap.size w w1 := (by below_by hb1))
    go_ret
    exact ⟨rfl, HeapPost.same HH.out hB⟩
  | some o =>
    have hit : H.items v = o.items := by simp [HeapM.items, g]
    rw [hit] at hlen
    by_cases hin : 0 ≤ i ∧ i ≤ j ∧ j ≤ o.items.length
    · have e1 : H.canReplace v i j = true := by simp [HeapM.canReplace, g, hin]
      have e2 : H.replace v i j l = H.set v.n { o with items := o.items.take i.toNat ++ l ++ o.items.drop j.toNat } := by simp [HeapM.replace, g, hin]
      rw [e1, e2]
      obtain ⟨a, rfl⟩ : ∃ a : Nat, i = a := ⟨i.toNat, by omega⟩
      obtain ⟨b, rfl⟩ : ∃ b : Nat, j = b := ⟨j.toNat, by omega⟩
      exact heap_replace_yes w h v a b sv l hh g hs (by omega) (by omega) hlen
    · obtain ⟨ma, mr, b, d, rv, G, obs, r, O⟩ := hh.open g
      have HO := Lib.hid O.of
      have HK := Lib.hid O.cells
      have HH := Lib.hid hh
      have e1 : H.canReplace v i j = false := by simp [HeapM.canReplace, g, hin]
      have e2 : H.replace v i j l = H := by simp [HeapM.replace, g, hin]
      rw [e1, e2]
      obtain ⟨ra, rcap, hrv⟩ := O.hi.form
      subst hrv
      obtain ⟨sa, scap, rfl, hsa⟩ := hs
      clear hh g e1 e2 O hsa hlen hit
      simp only [V.val] at HO ⊢
      rcases Int.lt_or_le i 0 with hi0 | hi0
      · clear hin
        go_enter Try.func14, Try.ntmps14
        go_wp2_with (go_at_call 45; refine (HO.out _ (by below_tac)).mono ?_; rintro e w1 ⟨rfl, hb1⟩; have hB : Below w.heap.size w w1 := (by below_by hb1); obtain ⟨k0, k1, k2, k3, k4⟩ := HK.out _ hB)
        go_ret
        exact ⟨rfl, HeapPost.same HH.out hB⟩
      · rcases Int.lt_or_le j i with hj0 | hj0
        · clear hin
          go_enter Try.func14, Try.ntmps14
          go_wp2_with (go_at_call 45; refine (HO.out _ (by below_tac)).mono ?_; rintro e w1 ⟨rfl, hb1⟩; have hB : Below w.heap.size w w1 := (by below_by hb1); obtain ⟨k0, k1, k2, k3, k4⟩ := HK.out _ hB)
          go_ret
          exact ⟨rfl, HeapPost.same HH.out hB⟩
        · have hlt : (o.items.length : Int) < j := by omega
          clear hin
          go_enter Try.func14, Try.ntmps14
          go_wp2_with (go_at_call 45; refine (HO.out _ (by below_tac)).mono ?_; rintro e w1 ⟨rfl, hb1⟩; have hB : Below w.heap.size w w1 := (by below_by hb1); obtain ⟨k0, k1, k2, k3, k4⟩ := HK.out _ hB)
          go_ret
          exact ⟨rfl, HeapPost.same HH.out hB⟩
end Go.Proofs.Ytoancpjlkhijiaa
