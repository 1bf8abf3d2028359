/- Rows of slices; things in another order. -/
import Derived.Test.YtobcnffjfclolaaDoorSep
namespace Go.Proofs.YtobcnffjfclolaaDoor
set_option linter.unusedSimpArgs false
open Go.RowKit
set_option linter.unusedVariables false
theorem SepF.perm {Rs Qs : List Res} (p : Rs.Perm Qs) : ∀ {W : World} {F : List Nat}, SepF Rs W F → ∃ G, SepF Qs W G ∧ F.Perm G := by
  induction p with
  | nil => intro W F h; exact ⟨F, h, List.Perm.refl _⟩
  | cons R p ih =>
    rintro W F ⟨F1, F2, h1, h2, rfl⟩
    obtain ⟨G, g1, g2⟩ := ih h2
    exact ⟨F1 ++ G, ⟨F1, G, h1, g1, rfl⟩, List.Perm.append_left _ g2⟩
  | swap A B l =>
    rintro W F ⟨F1, F2, h1, ⟨F3, F4, h3, h4, rfl⟩, rfl⟩
    refine ⟨F3 ++ (F1 ++ F4), ⟨F3, F1 ++ F4, h3, ⟨F1, F4, h1, h4, rfl⟩, rfl⟩, ?_⟩
    rw [← List.append_assoc, ← List.append_assoc]; exact List.Perm.append_right _ List.perm_append_comm
  | trans p q ih1 ih2 =>
    intro W F h
    obtain ⟨G, g1, g2⟩ := ih1 h
    obtain ⟨K, k1, k2⟩ := ih2 g1
    exact ⟨K, k1, g2.trans k2⟩
theorem Sep.perm {w W : World} {Rs Qs : List Res} (S : Sep w Rs W) (p : Rs.Perm Qs) : Sep w Qs W := by
  obtain ⟨hw, F, f1, f2, f3⟩ := S
  obtain ⟨G, g1, g2⟩ := f1.perm p
  exact ⟨hw, G, g1, g2.nodup_iff.1 f2, fun b hb => f3 b (g2.mem_iff.2 hb)⟩
theorem Sep.behind {w W : World} {A T : List Res} {R : Res} (S : Sep w (R :: (A ++ T)) W) : Sep w (A ++ R :: T) W := S.perm List.perm_middle.symm
section
variable {w W : World} {h : Nat} {H : HeapM} {Rs : List Res}
end
end Go.Proofs.YtobcnffjfclolaaDoor
