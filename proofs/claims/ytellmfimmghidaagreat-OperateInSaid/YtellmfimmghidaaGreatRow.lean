/- A row of values of a law's own, beside the heap. -/
import Derived.Test.YtellmfimmghidaaGreatLocal
import Derived.Deep.DeepCutAuto
namespace Go.Proofs.YtellmfimmghidaaGreat
set_option linter.unusedSimpArgs false
open Go.RowKit
set_option linter.unusedVariables false
theorem own : ownKnob Tryz.prog.godebug = none := by kernel_rfl
theorem SeesV.part {w : World} {ra : Option Addr} {l : List V} {c : Nat} (h : SeesV w (.slice ra l.length c) l) {i j m : Nat} (hij : i ≤ j) (hjl : j ≤ l.length) (hjm : j ≤ m) (hmc : m ≤ c) :
    ∃ a, sliced ra i j m 3 = .slice a (j - i) (m - i) ∧ SeesV w (.slice a (j - i) (m - i)) ((l.drop i).take (j - i)) := by
  obtain ⟨a', c', he, h1, h2, h3⟩ := h
  obtain ⟨rfl, _, rfl⟩ := Value.slice.inj he
  refine ⟨_, rfl, ?_⟩
  have hlen : ((l.drop i).take (j - i)).length = j - i := by rw [List.length_take, List.length_drop]; omega
  refine ⟨_, _, by rw [hlen], by rw [hlen]; omega, by omega, ?_⟩
  by_cases he : j = i
  · left; subst he; simp
  · right
    rcases h3 with h3 | ⟨g, o, h3, h4⟩
    · rw [h3] at hjl; simp at hjl; omega
    · have hmi : ¬ m = i := by omega
      subst h3
      refine ⟨g, o + i * 3, ?_, fun k v hv => ?_⟩
      · simp [hmi, Addr.add]
      · have hk : k < j - i := by have := (List.getElem?_eq_some_iff.1 hv).1; rwa [hlen] at this
        rw [List.getElem?_take, if_pos hk, List.getElem?_drop] at hv
        have := h4 _ _ hv
        rw [Nat.add_mul, ← Nat.add_assoc] at this
        exact this
/-- The row `v` shows `xs`, beside the heap; it was made after the world had `B` blocks. -/
def RowAt (B : Nat) (w : World) (h : Nat) (H : HeapM) (L : List (Nat × Obj)) (W : World) (v : Value) (xs : List V) : Prop :=
  HAt w h H (ownL W v ++ L) W ∧ slIs W 29 3 V.cells v xs ∧ (∀ g, v.ownBlock = some g → B ≤ g) ∧ (∀ p ∈ L, p.1 < B) ∧ w.heap.size ≤ B ∧ B ≤ W.heap.size
theorem wpList_row_append {ops : Array Oper} {rest : List Oper} {o : Oper} {a : Act} {W : World} {Q : Exit → Act → World → Prop} (hg : o.guard = none) (s x : Operand)
    (ho : o.op = .call { callee := .builtin .append, args := #[s, x], argTypes := #[22, 22] }) (v : Value) (xs : List V) (hs : a.eval s = v) {B : Nat} {w : World} {h : Nat} {H : HeapM} {L : List (Nat × Obj)} (R : RowAt B w h H L W v xs) (sv : Value) (l : List V) (hx : a.eval x = sv) (hsv : SeesV W sv l) (hlen : xs.length + l.length ≤ 4194304)
    (k : ∀ va vc w', RowAt B w h H L w' (.slice va (xs.length + l.length) vc) (xs ++ l) → wpList Tryz.prog ops Q rest (a.put o.dst (.slice va (xs.length + l.length) vc)) w') :
    wpList Tryz.prog ops Q (o :: rest) a W := by
  obtain ⟨A, r1, r2, r3, r4, r5⟩ := R
  refine wpList_append_sees hg s x ho v xs hs r1 sv l hx hsv hlen fun va vc w' h1 h2 h3 => k va vc w' ⟨A.grown r1 (fun g hg' => Nat.le_trans r4 (r2 g hg')) (fun p hp e => ?_) h2 h3, h1, fun g hg' => ?_, r3, r4, Nat.le_trans r5 h2.size⟩
  · have := r2 p.1 e.symm; have := r3 p hp; omega
  · rcases h3 with h3 | h3
    · exact r2 g (by rw [← h3]; exact hg')
    · rw [h3] at hg'; have := Option.some.inj hg'; omega
theorem RowAt.made {w W : World} {h : Nat} {H : HeapM} {L : List (Nat × Obj)} (A : HAt w h H L W) (hL : ∀ p ∈ L, p.1 < W.heap.size) : RowAt W.heap.size w h H L (W.alloc (.cells #[] 29)) (.slice (some ⟨W.heap.size, 0, none⟩) 0 0) [] := by
  have h0 : (W.alloc (.cells #[] 29)).ownsRow 0 29 3 (.slice (some ⟨W.heap.size, 0, none⟩) 0 0) 0 [] := World.ownsRow_made W #[] 0 (Nat.zero_le _) (Nat.zero_le _) rfl
  have hb : Below W.heap.size W (W.alloc (.cells #[] 29)) := belowAlloc _ _
  have hf : ∀ b, (Value.slice (some ⟨W.heap.size, 0, none⟩) 0 0).ownBlock = some b → W.heap.size ≤ b := fun b e => by simp [Value.ownBlock] at e; omega
  exact ⟨A.withSl hb hf, h0, hf, hL, A.below.size, by rw [World.size_alloc]; omega⟩
/-- The law writes into a row that a method gave it. -/
theorem HAt.wrote {w W : World} {h : Nat} {H : HeapM} {L : List (Nat × Obj)} {g c k : Nat} {D : List V} (A : HAt w h H (ownL W (.slice (some ⟨g, 0, none⟩) D.length c) ++ L) W) (hs : slIs W 29 3 V.cells (.slice (some ⟨g, 0, none⟩) D.length c) D) (hw : w.heap.size ≤ g) (hL : ∀ p ∈ L, p.1 ≠ g) (hk : k < D.length) (x : V) :
    slIs (W.setCells g (k * 3) x.cells) 29 3 V.cells (.slice (some ⟨g, 0, none⟩) D.length c) (D.set k x) ∧ HAt w h H (ownL (W.setCells g (k * 3) x.cells) (.slice (some ⟨g, 0, none⟩) D.length c) ++ L) (W.setCells g (k * 3) x.cells) := by
  have hp := hs.putAt (a' := x) V.cells_len hk
  obtain ⟨cs, hc⟩ := hs.typed g rfl
  have hm : (g, Obj.cells cs 29) ∈ ownL W (.slice (some ⟨g, 0, none⟩) D.length c) := mem_ownL rfl hc
  refine ⟨hp, A.beside (G := [g]) (Outside.setCells (.inl (by simp)) _ _ (Outside.refl _ _)) (fun q hq => ?_) (fun p hp' => ?_)⟩
  · have := List.mem_singleton.1 hq; subst this
    exact .inl ⟨hw, _, List.mem_append_left _ hm⟩
  · rcases List.mem_append.1 hp' with h1 | h1
    · obtain ⟨h2, h3⟩ := ownL_mem h1
      have := Option.some.inj h2
      simp only at this
      exact .inr ⟨h3, .inl ⟨_, List.mem_append_left _ (by rw [← this]; exact hm)⟩⟩
    · exact .inl ⟨List.mem_append_right _ h1, by simpa using hL p h1⟩
end Go.Proofs.YtellmfimmghidaaGreat
