/- A row of bytes that came in. -/
import Derived.Test.YtjinabglachglaaShown
import Derived.Test.YtjinabglachglaaFrame
import Derived.Test.YtjinabglachglaaOpen
namespace Go.Proofs.Ytjinabglachglaa
set_option linter.unusedSimpArgs false
open Go.ChangeShapes Go.WideShapes Go.ChangeAt Go.RowKit
set_option linter.unusedVariables false
section
variable {H : Type} {enc : TypeId × Value → H} {w : World} {base : Nat} {spare : Nat → Bool} {held : Bool}
theorem byte_of {n : Int} (h : (Lit.int .u8 n).wf = true) : ∃ b : Nat, n = (b : Int) ∧ b < 256 := by
  have h1 : 0 ≤ n ∧ n < 256 := by
    have e1 : IntKind.u8.min = 0 := by decide
    have e2 : IntKind.u8.max = 255 := by decide
    simp [Lit.wf, e1, e2] at h
    omega
  exact ⟨n.toNat, by omega, by omega⟩
theorem open_bytes {fuel : Nat} {v : Value} {x : DataW H × List MemPlace} (h : DataW.trod enc Try.prog w base spare held fuel 22 [v] = some x) : ∃ l, SeesB w v l := by
  obtain ⟨cells1, m1, x1, hx⟩ : True ∧ True ∧ True ∧ True := ⟨trivial, trivial, trivial, trivial⟩
  rcases Deep.open_slice1 Try.underlying22 (by kernel_rfl) h with ⟨h0, _⟩ | ⟨a, len, cap, m, n, V, D, Pl, hcs, hb, hl, hm, hmm, hx, hi⟩
  · simp only [List.cons.injEq, and_true] at h0
    subst h0
    exact ⟨[], ⟨none, 0, rfl, by simp, by simp, .inl rfl⟩⟩
  · simp only [List.cons.injEq, and_true] at hcs
    subst hcs
    have hlm : len ≤ m := by rw [hmm]; split <;> omega
    obtain ⟨f, hf⟩ : ∃ f : Nat → Nat, ∀ i, i < len → w.cell? (a.add i) = some (.int .u8 (f i : Int)) ∧ f i < 256 :=
      Deep.choose_lt (α := Nat) (p := fun i n => w.cell? (a.add i) = some (.int .u8 (n : Int)) ∧ n < 256) (fun i hil => by
        obtain ⟨h1, h2⟩ := hi i (by omega)
        obtain ⟨k, e0, _, hk⟩ := DataW.trod_int Try.underlying5 h2
        simp only [List.cons.injEq, and_true] at e0
        obtain ⟨b, rfl, hb⟩ := byte_of hk
        exact ⟨b, by rw [h1, e0], hb⟩)
    have hlen : ((List.range len).map f).length = len := by simp
    obtain ⟨g, o, spot⟩ := a
    have hadd : ∀ j, (⟨g, o, none⟩ : Addr).add j = ⟨g, o + j, none⟩ := fun j => by unfold Addr.add; split <;> simp_all
    refine ⟨(List.range len).map f, ⟨some ⟨g, o, spot⟩, cap, by rw [hlen], by rw [hlen]; omega, fun b hb => ?_, ?_⟩⟩
    · obtain ⟨i, hi', rfl⟩ := List.mem_map.1 hb
      exact (hf i (List.mem_range.1 hi')).2
    · rcases Nat.eq_zero_or_pos len with h0 | h0
      · left; subst h0; rfl
      · right
        have hs : spot = none := by
          have := (hf 0 h0).1
          simpa [Addr.add] using World.cell?_spot this
        subst hs
        refine ⟨g, o, rfl, fun i v hj => ?_⟩
        have hil : i < len := by have := (List.getElem?_eq_some_iff.1 hj).1; rwa [hlen] at this
        have hv' : f i = v := by rw [List.getElem?_map, List.getElem?_range hil] at hj; exact Option.some.inj hj
        rw [← hadd, ← hv']; exact (hf i hil).1
end
end Go.Proofs.Ytjinabglachglaa
