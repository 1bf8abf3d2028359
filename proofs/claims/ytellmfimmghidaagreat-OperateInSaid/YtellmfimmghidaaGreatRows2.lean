/- Rows of slices; things in another order. -/
import Derived.Test.YtellmfimmghidaaGreatSep
namespace Go.Proofs.YtellmfimmghidaaGreat
set_option linter.unusedSimpArgs false
open Go.RowKit
set_option linter.unusedVariables false
theorem SepF.perm {Rs Qs : List Res} (p : Rs.Perm Qs) : ∀ {W : World} {F : List Nat}, SepF Rs W F → ∃ G, SepF Qs W G ∧ F.Perm G := by
  induction p with
  | nil => intro W F h; exact ⟨F, h, List.Perm.refl _⟩
  | cons R p ih =>
    rintro W F ⟨F1, F2, h1, h2, rfl⟩
    obtain ⟨G, g1, g2⟩ := ih h2
    exact ⟨F1 ++ G, ⟨F1, G, h1, g1, rfl⟩, List.Perm.append_left _ g2⟩
  | swap A B l =>
    rintro W F ⟨F1, F2, h1, ⟨F3, F4, h3, h4, rfl⟩, rfl⟩
    refine ⟨F3 ++ (F1 ++ F4), ⟨F3, F1 ++ F4, h3, ⟨F1, F4, h1, h4, rfl⟩, rfl⟩, ?_⟩
    rw [← List.append_assoc, ← List.append_assoc]; exact List.Perm.append_right _ List.perm_append_comm
  | trans p q ih1 ih2 =>
    intro W F h
    obtain ⟨G, g1, g2⟩ := ih1 h
    obtain ⟨K, k1, k2⟩ := ih2 g1
    exact ⟨K, k1, g2.trans k2⟩
theorem Sep.perm {w W : World} {Rs Qs : List Res} (S : Sep w Rs W) (p : Rs.Perm Qs) : Sep w Qs W := by
  obtain ⟨hw, F, f1, f2, f3⟩ := S
  obtain ⟨G, g1, g2⟩ := f1.perm p
  exact ⟨hw, G, g1, g2.nodup_iff.1 f2, fun b hb => f3 b (g2.mem_iff.2 hb)⟩
theorem Sep.behind {w W : World} {A T : List Res} {R : Res} (S : Sep w (R :: (A ++ T)) W) : Sep w (A ++ R :: T) W := S.perm List.perm_middle.symm
theorem Sep.rowMem {w W : World} {Rs : List Res} (S : Sep w Rs W) {α : Type} {e : TypeId} {m : Nat} {f : α → List Value} {v : Value} {l : List α} (h : rowR e m f v l ∈ Rs) : slIs W e m f v l := by
  obtain ⟨i, hi⟩ := List.getElem?_of_mem h
  exact S.row i hi
def slCell (v : Value) : List Value := [v]
abbrev slsR (v : Value) (l : List Value) : Res := rowR 22 1 slCell v l
theorem info_slice : (Tryz.prog.info? 22).map (fun i => (i.zero, i.size, i.bytes)) = some (some (.slice none 0 0), 1, 24) := by kernel_rfl
section
variable {w W : World} {h : Nat} {H : HeapM} {Rs : List Res}
theorem wpList_push_sl {ops : Array Oper} {rest : List Oper} {o : Oper} {a : Act} {Q : Exit → Act → World → Prop} (hg : o.guard = none) (s x : Operand)
    (ho : o.op = .call { callee := .builtin .append, args := #[s, x], argTypes := #[169, 169] }) {v : Value} {xs : List Value} (S : Sep w Rs W) (j : Nat) (hj : Rs[j]? = some (slsR v xs)) (hs : a.eval s = v) (ya : Option Addr) (yn yc : Nat) (g : Nat) (hx : a.eval x = .slice (some ⟨g, 0, none⟩) 1 1) (hc : W.cell? ⟨g, 0, none⟩ = some (.slice ya yn yc)) (hlen : xs.length + 1 ≤ 17592186044)
    (k : ∀ va vc w', Sep w (Rs.set j (slsR (.slice va (xs.length + 1) vc) (xs ++ [.slice ya yn yc]))) w' → wpList Tryz.prog ops Q rest (a.put o.dst (.slice va (xs.length + 1) vc)) w') :
    wpList Tryz.prog ops Q (o :: rest) a W := by
  obtain ⟨i0, hi, iz0, iz1, iz2⟩ := info_parts info_slice
  refine wpList_append_own_at W hg s x 169 ho 0 22 i0 _ 1 24 Tryz.underlying169 hi iz0 iz1 iz2 rfl (by decide) v xs.length (xs.flatMap slCell) hs (S.row j hj) ⟨g, 0, none⟩ 1 1 (slCell (.slice ya yn yc)) hx rfl ?_ ?_ ?_ ?_ (Nat.zero_le _) ?_
  · intro j u hu
    have hadd : (⟨g, 0, none⟩ : Addr).add j = ⟨g, j, none⟩ := by unfold Addr.add; split <;> simp_all
    rw [hadd]
    match j, hu with
    | 0, hu => simp [slCell] at hu; rw [hc, hu]
    | j + 1, hu => simp [slCell] at hu
  · intro u hu; simp [slCell] at hu; subst hu; rfl
  · exact Nat.le_trans hlen (by decide)
  · omega
  · intro v' w' hown hgr hnil hat
    obtain ⟨va, vc, rfl⟩ := ownsRow_form hown
    refine k va vc w' (S.grown j hj ⟨flatMap_length slCell 1 (fun _ => rfl) _, ?_⟩ hgr hat)
    have := hown.2
    rw [List.flatMap_append, List.length_append]
    exact this
end
end Go.Proofs.YtellmfimmghidaaGreat
