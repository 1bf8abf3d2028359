/- A number is pushed on a row of one's own. -/
import Derived.Test.YtobcnffjfclolaaDoorHeapF
namespace Go.Proofs.YtobcnffjfclolaaDoor
set_option linter.unusedSimpArgs false
open Go.RowKit
set_option linter.unusedVariables false
theorem wpList_push_n {ops : Array Oper} {rest : List Oper} {o : Oper} {a : Act} {W : World} {Q : Exit → Act → World → Prop} (hg : o.guard = none) (s x : Operand)
    (ho : o.op = .call { callee := .builtin .append, args := #[s, x], argTypes := #[89, 89] }) (v : Value) (xs : List Int) (hs : a.eval s = v) (h : slIs W 2 1 intCell v xs) (n : Int) (g : Nat) (hx : a.eval x = .slice (some ⟨g, 0, none⟩) 1 1) (hc : W.cell? ⟨g, 0, none⟩ = some (.int .i64 n)) (hlen : xs.length + 1 ≤ 17592186044416)
    (k : ∀ va vc w', slIs w' 2 1 intCell (.slice va (xs.length + 1) vc) (xs ++ [n]) → W.grownBy w' v.ownBlock → ((Value.slice va (xs.length + 1) vc).ownBlock = v.ownBlock ∨ (Value.slice va (xs.length + 1) vc).ownBlock = some W.heap.size) → wpList Tryd.prog ops Q rest (a.put o.dst (.slice va (xs.length + 1) vc)) w') :
    wpList Tryd.prog ops Q (o :: rest) a W := by
  obtain ⟨i0, hi, iz0, iz1, iz2⟩ := info_parts info_int64
  refine wpList_append_own_at W hg s x 89 ho 0 2 i0 _ 1 8 Tryd.underlying89 hi iz0 iz1 iz2 rfl (by decide) v xs.length (xs.flatMap intCell) hs h ⟨g, 0, none⟩ 1 1 (intCell n) hx rfl ?_ ?_ ?_ ?_ (Nat.zero_le _) ?_
  · intro j u hu
    have hadd : (⟨g, 0, none⟩ : Addr).add j = ⟨g, j, none⟩ := by unfold Addr.add; split <;> simp_all
    rw [hadd]
    match j, hu with
    | 0, hu => simp [intCell] at hu; rw [hc, hu]
    | j + 1, hu => simp [intCell] at hu
  · intro u hu; simp [intCell] at hu; subst hu; rfl
  · exact Nat.le_trans hlen (by decide)
  · omega
  · intro v' w' hown hgr hnil hat
    obtain ⟨va, vc, rfl⟩ := ownsRow_form hown
    refine k va vc w' ⟨flatMap_length intCell 1 (fun _ => rfl) _, ?_⟩ hgr hat
    have := hown.2
    rw [List.flatMap_append, List.length_append]
    exact this
/-- A row of numbers of one's own, in a world that is as `w` was below. -/
def RowN (w : World) (W : World) (v : Value) (xs : List Int) : Prop := slIs W 2 1 intCell v xs ∧ (∀ g, v.ownBlock = some g → w.heap.size ≤ g) ∧ Below w.heap.size w W
theorem RowN.later {w W W' : World} {v : Value} {xs : List Int} (h : RowN w W v xs) (hb : Below W.heap.size W W') : RowN w W' v xs := ⟨h.1.of_block fun g hg => hb.block g (h.1.lt g hg), h.2.1, Below.next h.2.2 hb h.2.2.size⟩
theorem RowN.pushed {w W W' : World} {v v' : Value} {xs xs' : List Int} (h : RowN w W v xs) (h' : slIs W' 2 1 intCell v' xs') (hg : W.grownBy W' v.ownBlock) (hat : v'.ownBlock = v.ownBlock ∨ v'.ownBlock = some W.heap.size) : RowN w W' v' xs' := by
  obtain ⟨h1, h2, h3⟩ := h
  refine ⟨h', fun g hg' => ?_, Outside.below_of h3 (Outside.of_grown hg) (fun b hb => h2 b (by simpa using hb)) h3.size⟩
  rcases hat with e | e
  · exact h2 g (by rw [← e]; exact hg')
  · rw [e] at hg'; have := Option.some.inj hg'; have := h3.size; omega
theorem RowN.made {w W : World} (h : Below w.heap.size w W) : RowN w (W.alloc (.cells #[] 2)) (.slice (some ⟨W.heap.size, 0, none⟩) 0 0) [] := by
  have h0 : (W.alloc (.cells #[] 2)).ownsRow 0 2 1 (.slice (some ⟨W.heap.size, 0, none⟩) 0 0) 0 [] := World.ownsRow_made W #[] 0 (Nat.zero_le _) (Nat.zero_le _) rfl
  have := h.size
  exact ⟨h0, fun b e => by simp [Value.ownBlock] at e; omega, h.alloc h.size _⟩
end Go.Proofs.YtobcnffjfclolaaDoor
