/- What the laws over a made heap share. -/
import Derived.Test.YtoancpjlkhijiaaKeepsM
import Derived.Test.YtoancpjlkhijiaaRows2
import Derived.Test.YtoancpjlkhijiaaAll
namespace Go.Proofs.Ytoancpjlkhijiaa
set_option linter.unusedSimpArgs false
open Go.ChangeShapes Go.WideShapes Go.ChangeAt Go.RowKit
set_option linter.unusedVariables false
def LawTrue (w : World) (e : Ending) (w' : World) : Prop := e = .returned (.bool true) ∧ Below w.heap.size w w'
theorem sep_of {w W : World} {h : Nat} {H : HeapM} (A : HAt w h H [] W) : Sep w [heapR h H] W := by
  obtain ⟨F, f1, f2, f3, _⟩ := A
  exact ⟨f3, F, ⟨F, [], f1, rfl, by simp⟩, f1.nodup, f2⟩
theorem seesO_below {w w1 : World} {s : Value} {l : List OpM} (h : SeesO w s l) (hb : Below w.heap.size w w1) : SeesO w1 s l := by
  obtain ⟨a, cap, e, h1, h2, h3, h4⟩ := h
  refine ⟨a, cap, e, h1, h2, ?_, fun x hx => ⟨(h4 x hx).1.keep fun p v hp => cellBelow hp hb, fun g o n c e h0 => ?_⟩⟩
  · rcases h3 with h3 | ⟨g, o, h3, h5⟩
    · exact .inl h3
    · exact .inr ⟨g, o, h3, fun i x hx j u hu => cellBelow (h5 i x hx j u hu) hb⟩
  · rcases (h4 x hx).2 g o n c e h0 with h | ⟨_, h⟩
    · exact .inl (Nat.lt_of_lt_of_le h hb.size)
    · cases h
section
variable {w W : World} {h : Nat} {H : HeapM} {Rs : List Res} {N : Nat}
theorem Sep.all (S : Sep w Rs W) (i : Nat) (hi : Rs[i]? = some (heapR h H)) (G : H.Good N) (hN : N ≤ 4000000) : Calls Try.prog 29 #[.pointer (some ⟨h, 0, none⟩)] W fun e W' => ∃ sv, e = .returned sv ∧ Sep w (numsR sv (H.objs.map (·.1)) :: Rs) W' ∧ Below W.heap.size W W' := by
  obtain ⟨F, h1, _⟩ := S.get i hi
  have := G.len
  exact (heap_all W h h1 (by omega) G.ok.asc).mono fun e W' ⟨sv, e1, e2, e3, e4⟩ => ⟨sv, e1, S.addRow e4 e2 e3, e4⟩
theorem Sep.madeNums (S : Sep w Rs W) : Sep w (numsR (.slice (some ⟨W.heap.size, 0, none⟩) 0 0) [] :: Rs) (W.alloc (.cells #[] 2)) :=
  S.addRow (belowAlloc W _) (World.ownsRow_made W #[] 0 (Nat.zero_le _) (Nat.zero_le _) rfl) (by simp [Value.ownBlock])
theorem Sep.madeSls (S : Sep w Rs W) : Sep w (slsR (.slice (some ⟨W.heap.size, 0, none⟩) 0 0) [] :: Rs) (W.alloc (.cells #[] 22)) :=
  S.addRow (belowAlloc W _) (World.ownsRow_made W #[] 0 (Nat.zero_le _) (Nat.zero_le _) rfl) (by simp [Value.ownBlock])
theorem Sep.numCell (S : Sep w Rs W) {g c : Nat} {L : List Int} (i : Nat) (hi : Rs[i]? = some (numsR (.slice (some ⟨g, 0, none⟩) L.length c) L)) {k : Nat} {n : Int} (hn : L[k]? = some n) : W.cell? ⟨g, k, none⟩ = some (.int .i64 n) := by
  have := (S.row i hi).cell (f := intCell) (m := 1) (fun _ => rfl) rfl hn (j := 0) (u := .int .i64 n) rfl
  rwa [Nat.mul_one, Nat.add_zero] at this
theorem Sep.numAddr (S : Sep w Rs W) {a : Option Addr} {c : Nat} {L : List Int} (i : Nat) (hi : Rs[i]? = some (numsR (.slice a L.length c) L)) {k : Nat} (hk : k < L.length) : ∃ g, a = some ⟨g, 0, none⟩ := by
  rcases (S.row i hi).shape with ⟨h1, h2⟩ | ⟨g, cap, h1, _⟩
  · rw [h2] at hk; simp at hk
  · exact ⟨g, (Value.slice.inj h1).1⟩
end
theorem HeapM.keys_nums {H : HeapM} {N : Nat} (G : H.Good N) : H.Nums (H.objs.map (·.1)) := ⟨G.ok.nk, fun n hn => by
  obtain ⟨p, hp, rfl⟩ := List.mem_map.1 hn
  rw [getL_of_mem G.ok.nk hp]; rfl⟩
theorem HeapM.count_ref (H : HeapM) (n : Int) (hn : okI n) (hl : (getL H.objs n).isSome = true) : H.count (V.ref n hn) = cnt (allVals H.objs) n := by
  unfold HeapM.count HeapM.of
  rw [if_pos (show (V.ref n hn).kind = 4 from rfl)]
  exact if_pos hl
end Go.Proofs.Ytoancpjlkhijiaa
