/- kraitref12.Numbers; a number pushed on a row. -/
import Derived.Test.YtoancpjlkhijiaaRow
namespace Go.Proofs.Ytoancpjlkhijiaa
open Go.RowKit
set_option linter.unusedVariables false
theorem wpList_push_n {ops : Array Oper} {rest : List Oper} {o : Oper} {a : Act} {W : World} {Q : Exit → Act → World → Prop} (hg : o.guard = none) (s x : Operand)
    (ho : o.op = .call { callee := .builtin .append, args := #[s, x], argTypes := #[36, 36] }) (v : Value) (xs : List Int) (hs : a.eval s = v) (h : slIs W 2 1 intCell v xs) (n : Int) (g : Nat) (hx : a.eval x = .slice (some ⟨g, 0, none⟩) 1 1) (hc : W.cell? ⟨g, 0, none⟩ = some (.int .i64 n)) (hlen : xs.length + 1 ≤ 17592186044416)
    (k : ∀ va vc w', slIs w' 2 1 intCell (.slice va (xs.length + 1) vc) (xs ++ [n]) → W.grownBy w' v.ownBlock → ((Value.slice va (xs.length + 1) vc).ownBlock = v.ownBlock ∨ (Value.slice va (xs.length + 1) vc).ownBlock = some W.heap.size) → wpList Try.prog ops Q rest (a.put o.dst (.slice va (xs.length + 1) vc)) w') :
    wpList Try.prog ops Q (o :: rest) a W := by
  obtain ⟨i0, hi, iz0, iz1, iz2⟩ := info_parts info_int64
  refine wpList_append_own_at W hg s x 36 ho 0 2 i0 _ 1 8 Try.underlying36 hi iz0 iz1 iz2 rfl (by decide) v xs.length (xs.flatMap intCell) hs h ⟨g, 0, none⟩ 1 1 (intCell n) hx rfl ?_ ?_ ?_ ?_ (Nat.zero_le _) ?_
  · intro j u hu
    have hadd : (⟨g, 0, none⟩ : Addr).add j = ⟨g, j, none⟩ := by unfold Addr.add; split <;> simp_all
    rw [hadd]
    match j, hu with
    | 0, hu => simp [intCell] at hu; rw [hc, hu]
    | j + 1, hu => simp [intCell] at hu
  · intro u hu; simp [intCell] at hu; subst hu; rfl
  · exact Nat.le_trans hlen (by decide)
  · omega
  · intro v' w' hown hgr hnil hat
    obtain ⟨va, vc, rfl⟩ := ownsRow_form hown
    refine k va vc w' ⟨flatMap_length intCell 1 (fun _ => rfl) _, ?_⟩ hgr hat
    have := hown.2
    rw [List.flatMap_append, List.length_append]
    exact this
/-- A row of numbers of one's own, in a world that is as `w` was below. -/
def RowN (w : World) (W : World) (v : Value) (xs : List Int) : Prop := slIs W 2 1 intCell v xs ∧ (∀ g, v.ownBlock = some g → w.heap.size ≤ g) ∧ Below w.heap.size w W
theorem RowN.later {w W W' : World} {v : Value} {xs : List Int} (h : RowN w W v xs) (hb : Below W.heap.size W W') : RowN w W' v xs := ⟨h.1.of_block fun g hg => hb.block g (h.1.lt g hg), h.2.1, Below.next h.2.2 hb h.2.2.size⟩
theorem RowN.pushed {w W W' : World} {v v' : Value} {xs xs' : List Int} (h : RowN w W v xs) (h' : slIs W' 2 1 intCell v' xs') (hg : W.grownBy W' v.ownBlock) (hat : v'.ownBlock = v.ownBlock ∨ v'.ownBlock = some W.heap.size) : RowN w W' v' xs' := by
  obtain ⟨h1, h2, h3⟩ := h
  refine ⟨h', fun g hg' => ?_, Outside.below_of h3 (Outside.of_grown hg) (fun b hb => h2 b (by simpa using hb)) h3.size⟩
  rcases hat with e | e
  · exact h2 g (by rw [← e]; exact hg')
  · rw [e] at hg'; have := Option.some.inj hg'; have := h3.size; omega
theorem RowN.made {w W : World} (h : Below w.heap.size w W) : RowN w (W.alloc (.cells #[] 2)) (.slice (some ⟨W.heap.size, 0, none⟩) 0 0) [] := by
  have h0 : (W.alloc (.cells #[] 2)).ownsRow 0 2 1 (.slice (some ⟨W.heap.size, 0, none⟩) 0 0) 0 [] := World.ownsRow_made W #[] 0 (Nat.zero_le _) (Nat.zero_le _) rfl
  have := h.size
  exact ⟨h0, fun b e => by simp [Value.ownBlock] at e; omega, h.alloc h.size _⟩
set_option maxRecDepth 100000 in
set_option maxHeartbeats 1600000 in
theorem numbers_ok (w : World) (s : Value) (l : List V) (hs : SeesV w s l) (hlen : l.length ≤ 8796093022208) :
    Calls Try.prog 33 #[s] w fun e w' => ∃ rv, e = .returned rv ∧ RowN w w' rv (l.map (·.n)) := by
  obtain ⟨a, ac, rfl, a1, a2, a3⟩ := hs
  have hl : (l.length : Int) ≤ 9223372036854775807 := by unfold maxLen at a2; omega
  have HA := Lib.hid a3
  have HL := Lib.hid hlen
  clear a1 a2 a3 hlen
  have R0 := RowN.made (Below.refl w.heap.size w)
  go_enter Try.func33, Try.ntmps33
  go_wp2
  go_loopw [3, 4] (fun t i wr => ∃ k : Nat, k ≤ l.length ∧ i = .int .i64 k ∧ RowN w wr t ((l.take k).map (·.n))) (fun _ i _ => l.length - (intOf i).toNat)
  case atStart => exact ⟨0, by omega, rfl, R0⟩
  case round =>
    obtain ⟨k, hk, rfl, hR⟩ := hrel
    by_cases hlt : k < l.length
    · obtain ⟨x, hx⟩ : ∃ x, l[k]? = some x := ⟨l[k], by simp [hlt]⟩
      obtain ⟨g, o, rfl, hc⟩ : ∃ g o, a = some ⟨g, o, none⟩ ∧ ∀ i v, l[i]? = some v → w.cell? ⟨g, o + i * 3, none⟩ = some (.int .i64 v.kind) ∧ w.cell? ⟨g, o + i * 3 + 1, none⟩ = some (.int .i64 v.n) ∧ w.cell? ⟨g, o + i * 3 + 2, none⟩ = some (.string v.s) := by
        rcases HA.out with h | h
        · subst h; simp at hlt
        · exact h
      have c1 := cellBelow (hc k x hx).2.1 hR.2.2
      have hil : (k : Int) < l.length := by omega
      have htk : (l.take (k + 1)).map (·.n) = (l.take k).map (·.n) ++ [x.n] := by rw [List.take_add_one, hx]; simp
      have hxl : ((l.take k).map (·.n)).length ≤ k := by rw [List.length_map, List.length_take]; omega
      generalize (l.take k).map (·.n) = xs at *
      obtain ⟨va, vc, rfl⟩ := hR.1.form
      have HT := Lib.hid htk
      have HX := Lib.hid hxl
      have HR := Lib.hid hR
      have HLT := Lib.hid hlt
      clear htk hxl hc hx hR hlt
      go_wp2_with (at_builtin; refine wpList_push_n rfl _ _ rfl _ _ rfl (HR.out.1.alloc _) _ _ rfl (cell_of_row _ _ _ _ _ _ (heapAllocNew _ _)) (by have := HX.out; have := HL.out; have := HLT.out; omega) ?_)
      intro va' vc' w' h1 h2 h3
      have HR' := Lib.hid ((HR.out.later (belowAlloc _ _)).pushed h1 h2 (by rw [World.size_alloc]; exact h3))
      clear h1 h2 h3 c1
      go_wp2
      refine ⟨⟨k + 1, by have := HLT.out; omega, by go_num, by rw [HT.out]; exact HR'.out⟩, by have := HLT.out; simp [intOf]; omega⟩
    · obtain rfl : k = l.length := by omega
      rw [List.take_length] at hR
      obtain ⟨va, vc, rfl⟩ := hR.1.form
      have HR := Lib.hid hR
      clear hR hlt
      go_wp2
      go_ret
      exact ⟨_, rfl, HR.out⟩
end Go.Proofs.Ytoancpjlkhijiaa
