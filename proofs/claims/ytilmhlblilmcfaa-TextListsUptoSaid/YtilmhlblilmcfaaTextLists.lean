/-
  TextLists: for every str and row of strs of bulk at most 1048576 the law returns true: strs are joined as just this str, or this is raised. Condition: the bulk (the second form).
-/
import Derived.Test.YtilmhlblilmcfaaTextEnv3
namespace Go.Proofs.Ytilmhlblilmcfaa.textLists
open Go.ChangeShapes Go.WideShapes Go.ChangeAt Go.RowKit
open Go.ChangeMaps (open_string)
open Go
set_option linter.unusedVariables false
theorem join_pair (W : World) (sep : ByteArray) (a : Option Addr) (cap : Nat) (xs : List ByteArray) (hcap : xs.length ≤ cap) (hN : xs.length ≤ 6000) (hsep : sep.size ≤ 1048576) (hsz : ∀ x ∈ xs, x.size ≤ 1048576)
    (ha : 0 < xs.length → ∃ b o, a = some ⟨b, o, none⟩ ∧ b < W.heap.size ∧ ∀ (j : Nat) x, xs[j]? = some x → W.cell? ⟨b, o + j, none⟩ = some (.string x)) : ∃ r e : ByteArray,
    (∀ w, Below W.heap.size W w → Calls Try.prog 24 #[.string sep, .slice a xs.length cap] w (Ret (.tuple #[.string r, .string e]) w)) ∧
    (∀ w, Below W.heap.size W w → Calls Try.prog 25 #[.string sep, .slice a xs.length cap] w (Ret (.tuple #[.string r, .string e]) w)) := by
  rcases Nat.eq_zero_or_pos xs.length with h0 | h0
  · rw [h0]
    exact ⟨_, _, fun w _ => ret_same (join_none a cap sep w), fun w _ => ref_join_none a cap sep w⟩
  · obtain ⟨b, o, rfl, hb, hc⟩ := ha h0
    have hc' : ∀ w, Below W.heap.size W w → (∀ (j : Nat) x, xs[j]? = some x → w.cell? ⟨b, o + j, none⟩ = some (.string x)) ∧ b < w.heap.size := fun w hw =>
      ⟨fun j x hx => (hw.cell (p := ⟨b, o + j, none⟩) hb).trans (hc j x hx), Nat.lt_of_lt_of_le hb hw.size⟩
    by_cases h : jn sep.size xs xs.length ≤ 65536
    · exact ⟨_, _, fun w hw => join_ok b o cap xs sep w (hc' w hw).1 (hc' w hw).2 (by omega) hcap h (by omega) h0, fun w hw => ref_join_ok b o cap xs sep w (hc' w hw).1 (hc' w hw).2 (by omega) h h0⟩
    · exact ⟨_, _, fun w hw => ret_same (join_big b o cap xs sep w (hc' w hw).1 (fun x hx => by have := hsz x hx; omega) (by omega) (by omega) (by omega)),
        fun w hw => ref_join_big b o cap xs sep w (hc' w hw).1 (hc' w hw).2 (by omega) (by omega) hsep hsz⟩
set_option maxHeartbeats 1000000 in
theorem far (sep : ByteArray) (a : Option Addr) (len cap : Nat) (w : World) (h : 6000 < len) (h2 : len ≤ maxLen) :
    Calls Try.prog 5 #[.string sep, .slice a len cap] w fun e w' => e = .returned (.bool true) ∧ Below w.heap.size w w' := by
  unfold maxLen at h2
  go_enter Try.func5, Try.ntmps5
  go_wp2
  go_ret
  exact ⟨rfl, Below.refl _ _⟩
set_option maxHeartbeats 1000000 in
theorem near (W : World) (m : Int) (sep : ByteArray) (a : Option Addr) (cap : Nat) (xs : List ByteArray) (hcap : xs.length ≤ cap) (hN : xs.length ≤ 6000) (hsep : sep.size ≤ 1048576) (hsz : ∀ x ∈ xs, x.size ≤ 1048576)
    (ha : 0 < xs.length → ∃ b o, a = some ⟨b, o, none⟩ ∧ b < W.heap.size ∧ ∀ (j : Nat) x, xs[j]? = some x → W.cell? ⟨b, o + j, none⟩ = some (.string x)) (hm : W.cell? ⟨0, 0, none⟩ = some (.int .i64 m)) :
    Calls Try.prog 5 #[.string sep, .slice a xs.length cap] W fun e w' => e = .returned (.bool true) ∧ Below W.heap.size W w' := by
  obtain ⟨r, e, k1, k2⟩ := join_pair W sep a cap xs hcap hN hsep hsz ha
  have K1 := Lib.hid k1; have K2 := Lib.hid k2
  have hw0 : 0 < W.heap.size := World.block_lt_of_cell? W _ hm
  clear k1 k2 ha hsz
  generalize xs.length = n at *
  go_enter Try.func5, Try.ntmps5
  go_wp2_with fail
  refine (K1.out _ (Below.refl _ _)).mono ?_
  rintro e w1 ⟨rfl, c1⟩
  change Below _ _ _ at c1
  go_wp2_with fail
  refine (K2.out _ c1).mono ?_
  rintro e w2 ⟨rfl, c2⟩
  replace c2 := c1.trans ((show Below _ _ _ from c2).mono c1.size)
  have hm2 : w2.cell? ⟨0, 0, none⟩ = some (.int .i64 m) := (c2.cell (p := ⟨0, 0, none⟩) hw0).trans hm
  clear c1
  go_wp2_with fail
  refine (said_r m _ hm2).mono ?_
  rintro e w3 ⟨rfl, c3⟩
  replace c3 := c2.trans ((show Below _ _ _ from c3).mono c2.size)
  clear c2 hm2
  go_wp2
  go_ret
  exact ⟨rfl, c3⟩
theorem bulk_mem {H : Type} : ∀ (xs : List ByteArray) (x : ByteArray), x ∈ xs → x.size ≤ Rows.uptoBulkAll (strs (H := H) xs)
  | y :: r, x, h => by
    simp only [strs, List.map_cons, Rows.uptoBulkAll, Rows.uptoBulk]
    cases List.mem_cons.1 h with
    | inl e => subst e; have : x.data.toList.length = x.size := rfl; omega
    | inr e => have := bulk_mem (H := H) r x e; simp only [strs] at this; omega
set_option maxRecDepth 100000 in
theorem lifted (os : Os) (started : os.Started) (H : Type) (enc : TypeId × Value → H) (F : Stop.Interp) :
    ReturnsInHanded {} Try.checked os 5 .any ((Rows.OpenSpec.upto Rows.textListsSpec).pre6 enc Try.prog Try.f5 Rows.textListsUptoRow.domain false) (((Rows.OpenSpec.upto Rows.textListsSpec).at F).post enc Try.prog Try.f5 false true false false) := by
  refine law_lift_upto (C := Try.checked) own started (by kernel_rfl) Try.func5
    (OpenSpec.witness (enc := enc) (C := Try.checked) (s := Rows.OpenSpec.upto Rows.textListsSpec) (k := Rows.uptoSmall) rfl false ⟨#[], #[.string ⟨#[]⟩, .slice none 0 0], []⟩ 8 (by kernel_rfl) (by kernel_rfl) (by kernel_rfl)
      (x := ([.lit (.string []), .nil], [], [])) (by kernel_rfl) rfl (by kernel_rfl))
    (by kernel_rfl) (by kernel_rfl) rfl (fun ds h => by
      match ds, h with
      | [d1, d2], _ => exact ⟨rfl, rfl, rfl⟩) rfl Try.underlying4 ?_
  intro W base args ds ps hval hA hlt hbk hwt hsh
  rw [Try.params5] at hA hval
  obtain ⟨v0, vs0, d0, ds0, p0, q0, hargs, rfl, rfl, h0, r0⟩ := trodAll_cons hA
  obtain ⟨v1, vs1, d1, ds1, p1, q1, rfl, rfl, rfl, h1, r1⟩ := trodAll_cons r0
  obtain ⟨rfl, rfl, rfl⟩ := trodAll_nil r1
  obtain rfl : args = #[v0, v1] := by cases args; simp_all
  obtain ⟨a0, rfl, rfl, rfl, w0⟩ := open_string Try.underlying9 (hval 0 9 v0 rfl rfl) h0
  obtain ⟨x1, len1, cap1, rfl⟩ := okWide_slice Try.underlying31 (hval 1 31 v1 rfl rfl)
  obtain ⟨fuel1, hf1⟩ := h1
  obtain ⟨m, hm⟩ := shaped_m W hsh
  -- WALK
  rcases open_strings Try.underlying31 Try.underlying9 (by kernel_rfl) hf1 with ⟨hcs, hx⟩ | ⟨ad, len', cap', ss, hcs, _, hl, hmx, hz, hx, hcell, hws⟩
  · simp only [Value.cells, List.cons.injEq, Value.slice.injEq, and_true] at hcs
    obtain ⟨rfl, rfl, rfl⟩ := hcs
    simp only [Prod.mk.injEq] at hx
    obtain ⟨rfl, rfl⟩ := hx
    refine near W m a0 none 0 [] (Nat.le_refl _) (by simp) ?_ (fun x h => by cases h) (fun h => absurd h (by simp)) hm
    simp only [Rows.uptoBulkAll, Rows.uptoBulk] at hbk
    have : a0.data.toList.length = a0.size := rfl
    omega
  · have hcs2 : x1 = some ad ∧ len1 = len' ∧ cap1 = cap' := by simpa [Value.cells] using hcs
    obtain ⟨rfl, rfl, rfl⟩ := hcs2
    simp only [Prod.mk.injEq] at hx
    obtain ⟨rfl, rfl⟩ := hx
    have hss : ss.length = cap1 := by simpa using hz
    by_cases h6 : 6000 < len1
    · exact far a0 _ len1 cap1 W h6 (by omega)
    · have ht : (ss.take len1).length = len1 := by rw [List.length_take]; omega
      have hb1 : a0.data.toList.length = a0.size := rfl
      simp only [Rows.uptoBulkAll, Rows.uptoBulk] at hbk
      have key := near W m a0 (some ad) cap1 (ss.take len1) (by omega) (by omega) (by omega) (fun x hx => by have := bulk_mem (H := H) _ x hx; omega) (fun h0 => by
        have hc0 := hcell 0 (by omega)
        have hlt0 := World.block_lt_of_cell? W _ hc0
        have hsp : ad.spot = none := by
          have h1 : (ad.add 0) = ad := by simp [Addr.add]
          rw [h1] at hc0
          unfold World.cell? at hc0
          cases hs : ad.spot with
          | none => rfl
          | some k => rw [hs] at hc0; revert hc0; split <;> simp
        obtain ⟨b, o, sp⟩ := ad
        obtain rfl : sp = none := hsp
        refine ⟨b, o, rfl, by simpa [Addr.add] using hlt0, fun j x hx => ?_⟩
        have hj : j < len1 := by
          have := (List.getElem?_eq_some_iff.1 hx).1; omega
        have := hcell j (by omega)
        rw [List.getElem?_take_of_lt hj] at hx
        rw [List.getD_eq_getElem?_getD, hx] at this
        have e2 : (⟨b, o, none⟩ : Addr).add j = ⟨b, o + j, none⟩ := by
          unfold Addr.add; split
          · rename_i h; subst h; rfl
          · rfl
        rw [e2] at this; exact this) hm
      rw [ht] at key; exact key
theorem proved : Rows.TextListsUptoSaid :=
  OpenClaim.holds_of_cond 5 Try.f5 rfl rfl rfl rfl rfl rfl rfl ⟨rfl, rfl, rfl, rfl, rfl⟩ rfl rfl rfl rfl rfl (by kernel_rfl) Try.func5 (by kernel_rfl)
    (of_decide_eq_true (by kernel_rfl)) (by unfold Func.isWrapper; first | (rw [if_pos (by decide +kernel)]; kernel_rfl) | (rw [if_neg (by decide +kernel)]; exact ⟨rfl, rfl⟩))
    (fun os started H enc _ F => lifted os started H enc F)
#print axioms proved
end Go.Proofs.Ytilmhlblilmcfaa.textLists
