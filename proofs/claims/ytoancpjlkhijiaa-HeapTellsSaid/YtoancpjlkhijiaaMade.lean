/- The law's made: a heap that some operations made. -/
import Derived.Test.YtoancpjlkhijiaaOps
import Derived.Test.YtoancpjlkhijiaaDoA
import Derived.Test.YtoancpjlkhijiaaCore
namespace Go.Proofs.Ytoancpjlkhijiaa
set_option linter.unusedSimpArgs false
open Go.RowKit
set_option linter.unusedVariables false
noncomputable def madeM (l : List OpM) : HeapM := l.foldl HeapM.doo ⟨[], 0⟩
theorem madeM_good (l : List OpM) (h : ∀ x ∈ l, x.l.length ≤ 60) : (madeM l).Good (62 * l.length) := by
  have : ∀ (l : List OpM) (H : HeapM) (N : Nat), H.Good N → (∀ x ∈ l, x.l.length ≤ 60) → (l.foldl HeapM.doo H).Good (N + 62 * l.length) := by
    intro l
    induction l with
    | nil => intro H N h _; exact h
    | cons x r ih =>
      intro H N h hx
      have h1 := hx x List.mem_cons_self
      have := ih (H.doo x) (N + 62) ((h.doo x).more (by omega)) (fun y hy => hx y (List.mem_cons_of_mem _ hy))
      exact this.more (by simp only [List.length_cons]; omega)
  exact (this l ⟨[], 0⟩ 0 good_empty h).more (by omega)
theorem madeM_goodW (l : List OpM) : (madeM l).Good (opsW l) := by
  have : ∀ (l : List OpM) (H : HeapM) (N : Nat), H.Good N → (l.foldl HeapM.doo H).Good (N + opsW l) := by
    intro l
    induction l with
    | nil => intro H N h; exact h
    | cons x r ih =>
      intro H N h
      exact (ih (H.doo x) _ (h.doo x)).more (by rw [opsW_cons]; omega)
  exact (this l ⟨[], 0⟩ 0 good_empty).more (by omega)
theorem madeM_snoc (l : List OpM) (x : OpM) : madeM (l ++ [x]) = (madeM l).doo x := by simp [madeM, List.foldl_append]
theorem not_big {l : List OpM} (h : bigM l = false) : l.length ≤ 60 ∧ ∀ x ∈ l, x.l.length ≤ 60 := by
  simp only [bigM, Bool.or_eq_false_iff, decide_eq_false_iff_not, List.any_eq_false, decide_eq_true_eq] at h
  exact ⟨by omega, fun x hx => by have := h.2 x hx; omega⟩
/-- The operation at an index, as the world has it. -/
theorem SeesO.at_ {w : World} {a : Option Addr} {n c : Nat} {l : List OpM} (h : SeesO w (.slice a n c) l) {k : Nat} {x : OpM} (hx : l[k]? = some x) : ∃ g o, a = some ⟨g, o, none⟩ ∧ (∀ j u, x.cells[j]? = some u → w.cell? ⟨g, o + k * 16 + j, none⟩ = some u) ∧ x.In w := by
  obtain ⟨a', c', he, h1, h2, h3, h4⟩ := h
  obtain ⟨rfl, _, rfl⟩ := Value.slice.inj he
  rcases h3 with h3 | ⟨g, o, h3, h5⟩
  · subst h3; simp at hx
  · exact ⟨g, o, h3, h5 k x hx, h4 x (List.mem_of_getElem? hx)⟩
set_option maxRecDepth 100000 in
set_option maxHeartbeats 1600000 in
theorem lawMade_any (w : World) (s : Value) (l : List OpM) (hs : SeesO w s l) (hb : opsW l ≤ 3000000) :
    Calls Try.prog 18 #[s] w fun e w' => ∃ h, e = .returned (.pointer (some ⟨h, 0, none⟩)) ∧ HAt w h (madeM l) [] w' := by
  have HS := Lib.hid hs
  have HB := Lib.hid hb
  have hl : (l.length : Int) ≤ 3000000 := by have := opsW_len l; omega
  obtain ⟨a, ac, rfl, -, -, -, -⟩ := hs
  have HN := Lib.hid (HAt.new w w (Below.refl _ _))
  clear hb
  go_enter Try.func18, Try.ntmps18
  go_wp2_with fail
  refine HN.out.mono ?_
  rintro e w1 ⟨h, rfl, A1, hb1⟩
  replace A1 := Lib.hid A1
  clear hb1
  go_wp2
  go_loopw [4] (fun i wr => ∃ k : Nat, k ≤ l.length ∧ i = .int .i64 k ∧ HAt w h (madeM (l.take k)) [] wr) (fun i _ => l.length - (intOf i).toNat)
  case atStart => exact ⟨0, by omega, rfl, A1.out⟩
  case round =>
    obtain ⟨k, hk, rfl, hA⟩ := hrel
    by_cases hlt : k < l.length
    · obtain ⟨x, hx⟩ : ∃ x, l[k]? = some x := ⟨l[k], by simp [hlt]⟩
      obtain ⟨g, o, rfl, hc, hin⟩ := HS.out.at_ hx
      have G := madeM_goodW (l.take k)
      have hx60 := opsW_take hx
      have hlk := HB.out
      have C := hA.doo G x (hin.1.keep fun p v hp => cellBelow hp hA.below) hin.2 (by omega)
      have HT := Lib.hid (show madeM (l.take (k + 1)) = (madeM (l.take k)).doo x by rw [List.take_add_one, hx]; exact madeM_snoc _ _)
      have hcc : ∀ j u, x.cells[j]? = some u → wr.cell? ⟨g, o + k * 16 + j, none⟩ = some u := fun j u hu => cellBelow (hc j u hu) hA.below
      have c0 := hcc 0 _ rfl
      have c1 := hcc 1 _ rfl
      have c2 := hcc 2 _ rfl
      have c3 := hcc 3 _ rfl
      have c4 := hcc 4 _ rfl
      have c5 := hcc 5 _ rfl
      have c6 := hcc 6 _ rfl
      have c7 := hcc 7 _ rfl
      have c8 := hcc 8 _ rfl
      have c9 := hcc 9 _ rfl
      have c10 := hcc 10 _ rfl
      have c11 := hcc 11 _ rfl
      have c12 := hcc 12 _ rfl
      have c13 := hcc 13 _ rfl
      have c14 := hcc 14 _ rfl
      have c15 := hcc 15 _ rfl
      simp only [Nat.add_zero] at c0
      have hil : (k : Int) < l.length := by omega
      replace C := Lib.hid C
      simp only [OpM.val] at C
      have HL := Lib.hid hlt
      clear hA hx hc hcc hin G hlk hx60 hlt
      go_wp2_with fail
      refine C.out.mono ?_
      rintro e w2 ⟨rfl, A2⟩
      have A2 := Lib.hid A2
      clear c0 c1 c2 c3 c4 c5 c6 c7 c8 c9 c10 c11 c12 c13 c14 c15 C
      go_wp2
      refine ⟨⟨k + 1, by have := HL.out; omega, by go_num, by rw [HT.out]; exact A2.out⟩, by have := HL.out; simp [intOf]; omega⟩
    · obtain rfl : k = l.length := by omega
      rw [List.take_length] at hA
      replace hA := Lib.hid hA
      clear hlt
      go_wp2
      go_ret
      exact ⟨h, rfl, hA.out⟩
theorem opsW_small {l : List OpM} (h : bigM l = false) : opsW l ≤ 3720 := by
  obtain ⟨h1, h2⟩ := not_big h
  have : ∀ l : List OpM, (∀ x ∈ l, x.l.length ≤ 60) → opsW l ≤ 62 * l.length := by
    intro l
    induction l with
    | nil => intro _; simp [opsW]
    | cons x r ih => intro h; rw [opsW_cons, List.length_cons]; have := h x (by simp); have := ih (fun y hy => h y (by simp [hy])); omega
  have := this l h2; omega
theorem lawMade_ok (w : World) (s : Value) (l : List OpM) (hs : SeesO w s l) (hb : bigM l = false) :
    Calls Try.prog 18 #[s] w fun e w' => ∃ h, e = .returned (.pointer (some ⟨h, 0, none⟩)) ∧ HAt w h (madeM l) [] w' := lawMade_any w s l hs (by have := opsW_small hb; omega)
theorem HeapM.Kinds.doo {H : HeapM} (h : H.Kinds) (o : OpM) : (H.doo o).Kinds := by
  unfold HeapM.doo
  split
  · split
    · rename_i hk
      intro p hp
      rcases List.mem_append.1 hp with hp | hp
      · exact h p hp
      · simp at hp; subst hp; exact hk
    · exact h
  split
  · unfold HeapM.setNum; split
    · rename_i g; exact h.set g _ rfl
    · exact h
  split
  · unfold HeapM.setAt; split
    · rename_i g; split
      · exact h.set g _ rfl
      · exact h
    · exact h
  split
  · unfold HeapM.replace; split
    · rename_i g; split
      · exact h.set g _ rfl
      · exact h
    · exact h
  split
  · unfold HeapM.put; split
    · rename_i g; split
      · exact h.set g _ rfl
      · exact h
    · exact h
  split
  · unfold HeapM.del; split
    · rename_i g; exact h.set g _ rfl
    · exact h
  split
  · exact h.filter _ fun p hp => (List.mem_filter.1 hp).1
  split
  · have : ∀ (ns : List Int) (H : HeapM), H.Kinds → (H.freeAll ns).Kinds := by
      intro ns
      induction ns with
      | nil => intro H h; exact h
      | cons n r ih => intro H h; exact ih _ (h.drop n)
    exact this _ _ h
  · exact h
theorem madeM_kinds (l : List OpM) : (madeM l).Kinds := by
  have : ∀ (l : List OpM) (H : HeapM), H.Kinds → (l.foldl HeapM.doo H).Kinds := by
    intro l
    induction l with
    | nil => intro H h; exact h
    | cons x r ih => intro H h; exact ih _ (h.doo x)
  exact this l _ (by simp [HeapM.Kinds])
end Go.Proofs.Ytoancpjlkhijiaa
