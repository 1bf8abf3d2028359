/- Rows of ints; a heap beside all else. -/
import Derived.Test.YtoancpjlkhijiaaCountsM
namespace Go.Proofs.Ytoancpjlkhijiaa
set_option linter.unusedSimpArgs false
open Go.RowKit
set_option linter.unusedVariables false
theorem Sep.addHeap {w W W' : World} {Rs : List Res} {h : Nat} {H : HeapM} (S : Sep w Rs W) (A : HAt W h H [] W') : Sep w (heapR h H :: Rs) W' := by
  obtain ⟨F, f1, f2, f3, _⟩ := A
  exact S.add f3 (G := F) f1 f1.nodup f2
def sizeN (H : HeapM) (n : Int) : Int := ((((getL H.objs n).map ObjM.pairs).getD []).length : Int)
def numN (H : HeapM) (n : Int) : Int := ((getL H.objs n).map ObjM.num).getD 0
theorem HeapM.size_ref (H : HeapM) (n : Int) (hn : okI n) : ((H.pairs (V.ref n hn)).length : Int) = sizeN H n := by unfold HeapM.pairs sizeN HeapM.of; rw [if_pos (show (V.ref n hn).kind = 4 from rfl)]; rfl
theorem HeapM.num_ref (H : HeapM) (n : Int) (hn : okI n) : H.num (V.ref n hn) = numN H n := by unfold HeapM.num numN HeapM.of; rw [if_pos (show (V.ref n hn).kind = 4 from rfl)]; rfl
abbrev intsR (v : Value) (l : List Int) : Res := rowR 3 1 intCell v l
theorem info_int : (Try.prog.info? 3).map (fun i => (i.zero, i.size, i.bytes)) = some (some (.int .i64 0), 1, 8) := by kernel_rfl
section
variable {w W : World} {Rs : List Res}
theorem wpList_push_int {ops : Array Oper} {rest : List Oper} {o : Oper} {a : Act} {Q : Exit → Act → World → Prop} (hg : o.guard = none) (s x : Operand)
    (ho : o.op = .call { callee := .builtin .append, args := #[s, x], argTypes := #[64, 64] }) {v : Value} {xs : List Int} (S : Sep w Rs W) (j : Nat) (hj : Rs[j]? = some (intsR v xs)) (hs : a.eval s = v) (n : Int) (g : Nat) (hx : a.eval x = .slice (some ⟨g, 0, none⟩) 1 1) (hc : W.cell? ⟨g, 0, none⟩ = some (.int .i64 n)) (hlen : xs.length + 1 ≤ 17592186044)
    (k : ∀ va vc w', Sep w (Rs.set j (intsR (.slice va (xs.length + 1) vc) (xs ++ [n]))) w' → wpList Try.prog ops Q rest (a.put o.dst (.slice va (xs.length + 1) vc)) w') :
    wpList Try.prog ops Q (o :: rest) a W := by
  obtain ⟨i0, hi, iz0, iz1, iz2⟩ := info_parts info_int
  refine wpList_append_own_at W hg s x 64 ho 0 3 i0 _ 1 8 Try.underlying64 hi iz0 iz1 iz2 rfl (by decide) v xs.length (xs.flatMap intCell) hs (S.row j hj) ⟨g, 0, none⟩ 1 1 (intCell n) hx rfl ?_ ?_ ?_ ?_ (Nat.zero_le _) ?_
  · intro j u hu
    have hadd : (⟨g, 0, none⟩ : Addr).add j = ⟨g, j, none⟩ := by unfold Addr.add; split <;> simp_all
    rw [hadd]
    match j, hu with
    | 0, hu => simp [intCell] at hu; rw [hc, hu]
    | j + 1, hu => simp [intCell] at hu
  · intro u hu; simp [intCell] at hu; subst hu; rfl
  · exact Nat.le_trans hlen (by decide)
  · omega
  · intro v' w' hown hgr hnil hat
    obtain ⟨va, vc, rfl⟩ := ownsRow_form hown
    refine k va vc w' (S.grown j hj ⟨flatMap_length intCell 1 (fun _ => rfl) _, ?_⟩ hgr hat)
    have := hown.2
    rw [List.flatMap_append, List.length_append]
    exact this
theorem Sep.madeInts (S : Sep w Rs W) : Sep w (intsR (.slice (some ⟨W.heap.size, 0, none⟩) 0 0) [] :: Rs) (W.alloc (.cells #[] 3)) :=
  S.addRow (belowAlloc W _) (World.ownsRow_made W #[] 0 (Nat.zero_le _) (Nat.zero_le _) rfl) (by simp [Value.ownBlock])
theorem Sep.intCell (S : Sep w Rs W) {g c : Nat} {L : List Int} (i : Nat) (hi : Rs[i]? = some (intsR (.slice (some ⟨g, 0, none⟩) L.length c) L)) {k : Nat} {n : Int} (hn : L[k]? = some n) : W.cell? ⟨g, k, none⟩ = some (.int .i64 n) := by
  have := (S.row i hi).cell (f := Go.Proofs.Ytoancpjlkhijiaa.intCell) (m := 1) (fun _ => rfl) rfl hn (j := 0) (u := .int .i64 n) rfl
  rwa [Nat.mul_one, Nat.add_zero] at this
theorem Sep.rowAddr (S : Sep w Rs W) {α : Type} {e : TypeId} {m : Nat} {f : α → List Value} {a : Option Addr} {c : Nat} {L : List α} (i : Nat) (hi : Rs[i]? = some (rowR e m f (.slice a L.length c) L)) {k : Nat} (hk : k < L.length) : ∃ g, a = some ⟨g, 0, none⟩ := by
  rcases (S.row i hi).shape with ⟨h1, h2⟩ | ⟨g, cap, h1, _⟩
  · rw [h2] at hk; simp at hk
  · exact ⟨g, (Value.slice.inj h1).1⟩
end
end Go.Proofs.Ytoancpjlkhijiaa
