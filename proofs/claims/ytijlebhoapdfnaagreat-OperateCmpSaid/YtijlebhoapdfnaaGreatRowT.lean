/- ch 16: rows of values in a symbolic run. -/
import Derived.Test.YtijlebhoapdfnaaGreatRows3
import Derived.Test.YtijlebhoapdfnaaGreatRegS
import Derived.Test.YtijlebhoapdfnaaGreatOprC
namespace Go.Proofs.YtijlebhoapdfnaaGreat
set_option linter.unusedSimpArgs false
open Go.RowKit
set_option linter.unusedVariables false
section
variable {w W : World} {Rs : List Res} {h : Nat} {H : HeapM}
theorem SeesV.rows {sv : Value} {l : List V} (h : SeesV W sv l) : SeesR V.cells 3 W sv l := by
 obtain ⟨a, c, h1, h2, h3, h4⟩ := h
 refine ⟨a, c, h1, h2, h3, ?_⟩
 rcases h4 with h4 | ⟨g, o, h5, h6⟩
 ·
  exact .inl h4
 ·
  refine .inr ⟨g, o, h5, fun i p hp j u hu => ?_⟩
  obtain ⟨c0, c1, c2⟩ := h6 i p hp
  match j, hu with
  | 0, hu => simp [V.cells] at hu; subst hu; exact c0
  | 1, hu => simp [V.cells] at hu; subst hu; exact c1
  | 2, hu => simp [V.cells] at hu; subst hu; exact c2
  | j + 3, hu => simp [V.cells] at hu
theorem SeesR.vals {sv : Value} {l : List V} (h : SeesR V.cells 3 W sv l) : SeesV W sv l := by
 obtain ⟨a, c, h1, h2, h3, h4⟩ := h
 refine ⟨a, c, h1, h2, h3, ?_⟩
 rcases h4 with h4 | ⟨g, o, h5, h6⟩
 ·
  exact .inl h4
 ·
  exact .inr ⟨g, o, h5, fun i p hp => ⟨h6 i p hp 0 _ rfl, h6 i p hp 1 _ rfl, h6 i p hp 2 _ rfl⟩⟩
/-- A row and what is appended to it. -/
theorem Sep.appendV (S : Sep w Rs W) (j : Nat) {a : Option Addr} {n c : Nat} {xs : List V} (hj : Rs[j]? = some (valsR (.slice a n c) xs)) (hn : xs.length = n) {sv : Value} {ys : List V} (hs : SeesV W sv ys) (m : Nat) (hm : n + ys.length = m) (hlen : m ≤ 9000000) :
  ∃ va vc w2, (Builtin.append_ #[56, 56] 56 #[.slice a n c, sv]).run Tryz.prog W = .ok (.slice va m vc) w2 ∧ Sep w (Rs.set j (valsR (.slice va m vc) (xs ++ ys))) w2 := by
 subst hn hm
 exact run_append_rows (f := V.cells) 56 24 56 Tryz.underlying56 _ _ info_val rfl (by decide) (by decide) V.cells_len (fun p u hu => by simp [V.cells] at hu; rcases hu with rfl | rfl | rfl <;> rfl) S j hj _ ys hs.rows hlen
theorem same_at (S : Sep w Rs W) {s t : Value} {l m : List V} (hs : SeesV W s l) (ht : SeesV W t m) (hlm : l = m) : Calls Tryz.prog 77 #[s, t] W fun e W' => e = .returned (.bool true) ∧ Sep w Rs W' :=
 (same_vals W s t l m hs ht).mono fun e W' ⟨e1, n, e2⟩ => ⟨by rw [e1, decide_eq_true hlm], by rw [e2]; exact S.drewN n⟩
theorem Sep.seesV (S : Sep w Rs W) {sv : Value} {l : List V} (j : Nat) (hj : Rs[j]? = some (valsR sv l)) : SeesV W sv l := (S.row j hj).sees'
/-- A row has a place, if anything is in it. -/
theorem SeesV.some_at {a : Option Addr} {n c : Nat} {l : List V} (hs : SeesV W (.slice a n c) l) (hl : 0 < l.length) : ∃ g o, a = some ⟨g, o, none⟩ := by
 obtain ⟨x, hx⟩ : ∃ x, l[0]? = some x := ⟨l[0], by simp [hl]⟩
 obtain ⟨g, o, e, _⟩ := hs.three hx
 exact ⟨g, o, e⟩
theorem Sep.rowCells (S : Sep w Rs W) (j : Nat) {g n c : Nat} {l : List V} (hj : Rs[j]? = some (valsR (.slice (some ⟨g, 0, none⟩) n c) l)) (hn : l.length = n) {k : Nat} (hk : k < n) {p : Prop}
  (kk : ∀ u : V, W.cell? ⟨g, k * 3, none⟩ = some (.int .i64 u.kind) → W.cell? ⟨g, k * 3 + 1, none⟩ = some (.int .i64 u.n) → W.cell? ⟨g, k * 3 + 2, none⟩ = some (.string u.s) → W.frozen? ⟨g, k * 3, none⟩ = false → W.frozen? ⟨g, k * 3 + 1, none⟩ = false → W.frozen? ⟨g, k * 3 + 2, none⟩ = false → p) : p := by
 subst hn
 obtain ⟨c0, c1, c2⟩ := sepThree S j hj (show l[k]? = some l[k] by simp [hk])
 rw [Nat.zero_add] at c0 c1 c2
 have hf := fun i => (S.row j hj).frozen rfl i
 exact kk _ c0 c1 c2 (hf _) (hf _) (hf _)
theorem Sep.caps (S : Sep w Rs W) (j : Nat) {a : Option Addr} {n c : Nat} {l : List V} (hj : Rs[j]? = some (valsR (.slice a n c) l)) : l.length = n ∧ n ≤ c ∧ (c : Int) ≤ 9223372036854775807 := by
 obtain ⟨a', c', e, h1, h2, _⟩ := S.seesV j hj
 obtain ⟨_, e2, e3⟩ := Value.slice.inj e
 subst e2 e3
 exact ⟨rfl, h1, by unfold maxLen at h2; omega⟩
theorem byte_range {t : Int} (h : (Lit.int .u8 t).wf = true) : 0 ≤ t ∧ t ≤ 255 := by
 simp [Lit.wf, IntKind.min, IntKind.max, IntKind.bits, IntKind.signed] at h
 omega
theorem rest_of {t : Int} (ht : 0 ≤ t) {n : Nat} (hn : 0 < n) : ∃ p : Nat, t.tmod (n : Int) = (p : Int) ∧ p < n := by
 have a := Int.tmod_nonneg (n : Int) ht
 have b := Int.tmod_lt_of_pos t (show (0 : Int) < n by omega)
 exact ⟨(t.tmod (n : Int)).toNat, (Int.toNat_of_nonneg a).symm, by
  have c := Int.toNat_of_nonneg a
  generalize t.tmod (n : Int) = z at *
  omega⟩
theorem SeesV.head {g o n c : Nat} {l : List V} (h : SeesV W (.slice (some ⟨g, o, none⟩) n c) l) {p : Nat} (hp : p ≤ n) : SeesV W (.slice (some ⟨g, o, none⟩) p c) (l.take p) := by
 obtain ⟨a, c', e, h1, h2, h3⟩ := h
 obtain ⟨e1, e2, e3⟩ := Value.slice.inj e
 subst e1 e2 e3
 have hl : (l.take p).length = p := by rw [List.length_take]; omega
 refine ⟨_, _, by rw [hl], by rw [hl]; omega, h2, ?_⟩
 rcases h3 with h3 | ⟨g', o', h4, h5⟩
 ·
  left; rw [h3]; simp
 ·
  right
  refine ⟨g', o', h4, fun i v hv => h5 i v ?_⟩
  rw [List.getElem?_take] at hv
  split at hv
  ·
   exact hv
  ·
   cases hv
/-- Where the rest of a row begins. -/
def capAt (c i g o : Nat) : Option Addr := if c = i then some ⟨g, o, none⟩ else some ⟨g, o + i * 3, none⟩
theorem SeesV.rest {g o n c : Nat} {l : List V} (h : SeesV W (.slice (some ⟨g, o, none⟩) n c) l) {i : Nat} (hi : i ≤ n) : SeesV W (.slice (capAt c i g o) (n - i) (c - i)) (l.drop i) := by
 unfold capAt
 obtain ⟨a, c', e, h1, h2, h3⟩ := h
 obtain ⟨e1, e2, e3⟩ := Value.slice.inj e
 subst e1 e2 e3
 have hl : (l.drop i).length = l.length - i := List.length_drop
 refine ⟨_, _, by rw [hl], by rw [hl]; omega, by omega, ?_⟩
 by_cases hc : c = i
 ·
  left; apply List.eq_nil_of_length_eq_zero; rw [hl]; omega
 ·
  right
  rcases h3 with h3 | ⟨g', o', h4, h5⟩
  ·
   subst h3; simp at hi; subst hi
   exact ⟨g, o + 0 * 3, by rw [if_neg hc], fun j v hv => by simp at hv⟩
  ·
   obtain ⟨rfl, rfl⟩ : g' = g ∧ o' = o := by injection h4 with h4; injection h4 with a b; exact ⟨a.symm, b.symm⟩
   refine ⟨g', o' + i * 3, by rw [if_neg hc], fun j v hv => ?_⟩
   rw [List.getElem?_drop] at hv
   have := h5 _ v hv
   rw [Nat.add_mul, ← Nat.add_assoc] at this
   exact this
end
end Go.Proofs.YtijlebhoapdfnaaGreat
