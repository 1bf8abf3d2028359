/- Any row, and what is laid behind it. -/
import Derived.Test.YtijlebhoapdfnaaGreatCore
import Derived.Maps.OwnIn
namespace Go.Proofs.YtijlebhoapdfnaaGreat
set_option linter.unusedSimpArgs false
open Go.RowKit
set_option linter.unusedVariables false
/-- The slice sv shows just the elements l, each of the cells that f tells. -/
def SeesR {α : Type} (f : α → List Value) (m : Nat) (w : World) (sv : Value) (l : List α) : Prop :=
 ∃ a c, sv = .slice a l.length c ∧ l.length ≤ c ∧ c ≤ maxLen ∧ (l = [] ∨ ∃ g o, a = some ⟨g, o, none⟩ ∧ ∀ (i : Nat) (p : α), l[i]? = some p → ∀ (j : Nat) (u : Value), (f p)[j]? = some u → w.cell? ⟨g, o + i * m + j, none⟩ = some u)
section
variable {α : Type} {f : α → List Value} {m : Nat}
theorem slIs.seesR {w : World} {e : TypeId} {rv : Value} {l : List α} (hm : ∀ a, (f a).length = m) (h : slIs w e m f rv l) : SeesR f m w rv l := by
 rcases h.shape with ⟨rfl, rfl⟩ | ⟨g, cap, rfl, h1, h2, h3⟩
 ·
  exact ⟨none, 0, rfl, by simp, by simp, .inl rfl⟩
 ·
  refine ⟨_, _, rfl, h1, h2, .inr ⟨g, 0, rfl, fun i p hp j u hu => ?_⟩⟩
  rw [Nat.zero_add]
  exact h.cell hm rfl hp hu
theorem SeesR.keep {w w' : World} {sv : Value} {l : List α} (h : SeesR f m w sv l) (hc : ∀ p v, w.cell? p = some v → w'.cell? p = some v) : SeesR f m w' sv l := by
 obtain ⟨a, c, h1, h2, h3, h4⟩ := h
 refine ⟨a, c, h1, h2, h3, ?_⟩
 rcases h4 with h4 | ⟨g, o, h5, h6⟩
 ·
  exact .inl h4
 ·
  exact .inr ⟨g, o, h5, fun i p hp j u hu => hc _ _ (h6 i p hp j u hu)⟩
variable {w W : World} {Rs : List Res}
theorem run_append_rows (T e ty : TypeId) (hu : Tryz.prog.underlying T = some (.slice e)) (z : Value) (bytes : Nat) (hi : (Tryz.prog.info? e).map (fun i => (i.zero, i.size, i.bytes)) = some (some z, m, bytes)) (hz : z.cells.size = m) (hm0 : 0 < m) (hby : bytes ≤ 4000) (hm : ∀ a, (f a).length = m) (h1 : ∀ p, ∀ u ∈ f p, u.oneCell' = true)
  {v : Value} {xs : List α} (S : Sep w Rs W) (j : Nat) (hj : Rs[j]? = some (rowR e m f v xs)) (sv : Value) (l : List α) (hsv : SeesR f m W sv l) (hlen : xs.length + l.length ≤ 9000000) :
  ∃ va vc w', (Builtin.append_ #[T, T] ty #[v, sv]).run Tryz.prog W = .ok (.slice va (xs.length + l.length) vc) w' ∧ Sep w (Rs.set j (rowR e m f (.slice va (xs.length + l.length) vc) (xs ++ l))) w' := by
 obtain ⟨i0, hi, iz0, iz1, iz2⟩ := info_parts hi
 have h := S.row j hj
 obtain ⟨p, cap, rfl, q1, q2, q3⟩ := hsv
 cases p with
 | none =>
  have hl : l = [] := by
   rcases q3 with h | ⟨g, o, h, _⟩
   ·
    exact h
   ·
    cases h
  subst hl
  obtain ⟨va, vc, rfl⟩ := h.form
  exact ⟨va, vc, W, run_append_nothing (P := Tryz.prog) W T ty e i0 hu hi va xs.length vc cap h.caps.2.1, by simpa [Sep.setSame hj] using S⟩
 | some p =>
  have hcells : ∀ j u, (l.flatMap f)[j]? = some u → W.cell? (p.add j) = some u := by
   rcases q3 with h | ⟨g, o, h, hh⟩
   ·
    subst h; intro j u hu; simp at hu
   ·
    cases h
    intro j u hu
    have hadd : (⟨g, o, none⟩ : Addr).add j = ⟨g, o + j, none⟩ := by unfold Addr.add; split <;> simp_all
    have hmod : j % m < m := Nat.mod_lt _ hm0
    have hje : j / m * m + j % m = j := by rw [Nat.mul_comm]; exact Nat.div_add_mod j m
    have := flatMap_get f m hm l (j / m) (j % m) hmod
    rw [hje] at this
    rw [this] at hu
    obtain ⟨q, hq, hu⟩ := Option.bind_eq_some_iff.1 hu
    have h5 := hh (j / m) q hq (j % m) u hu
    rw [hadd]
    rwa [Nat.add_assoc, hje] at h5
  obtain ⟨v', w', hr, hown, hgr, hnil, hat⟩ := run_append_own_at (P := Tryz.prog) W 0 T ty e i0 z m bytes hu hi iz0 iz1 iz2 hz hm0 v xs.length (xs.flatMap f) h p l.length cap (l.flatMap f) (flatMap_length f m hm l) hcells
   (by intro u hu; obtain ⟨v, _, hv⟩ := List.mem_flatMap.1 hu; exact h1 v u hv) (Nat.le_trans hlen (by decide)) (Nat.le_trans (Nat.mul_le_mul hlen hby) (by decide)) (Nat.zero_le _)
  obtain ⟨va, vc, rfl⟩ := ownsRow_form hown
  refine ⟨va, vc, w', hr, S.grown j hj ⟨flatMap_length f m hm _, ?_⟩ hgr hat⟩
  have := hown.2
  rw [List.flatMap_append, List.length_append]
  exact this
theorem wpList_append_rows {ops : Array Oper} {rest : List Oper} {o : Oper} {a : Act} {Q : Exit → Act → World → Prop} (hg : o.guard = none) (s x : Operand) (T e : TypeId)
  (ho : o.op = .call { callee := .builtin .append, args := #[s, x], argTypes := #[T, T] }) (hu : Tryz.prog.underlying T = some (.slice e)) (z : Value) (bytes : Nat) (hi : (Tryz.prog.info? e).map (fun i => (i.zero, i.size, i.bytes)) = some (some z, m, bytes)) (hz : z.cells.size = m) (hm0 : 0 < m) (hby : bytes ≤ 4000) (hm : ∀ a, (f a).length = m) (h1 : ∀ p, ∀ u ∈ f p, u.oneCell' = true)
  {v : Value} {xs : List α} (S : Sep w Rs W) (j : Nat) (hj : Rs[j]? = some (rowR e m f v xs)) (hs : a.eval s = v) (sv : Value) (l : List α) (hx : a.eval x = sv) (hsv : SeesR f m W sv l) (hlen : xs.length + l.length ≤ 9000000)
  (k : ∀ va vc w', Sep w (Rs.set j (rowR e m f (.slice va (xs.length + l.length) vc) (xs ++ l))) w' → wpList Tryz.prog ops Q rest (a.put o.dst (.slice va (xs.length + l.length) vc)) w') :
  wpList Tryz.prog ops Q (o :: rest) a W := by
 obtain ⟨va, vc, w', hr, S'⟩ := run_append_rows T e o.type hu z bytes hi hz hm0 hby hm h1 S j hj sv l hsv hlen
 exact Lib.wpList_append_run W hg s x _ _ ho _ _ hs hx _ _ hr (k va vc w' S')
/-- One element, alone in a block. -/
theorem sees_one {g : Nat} {cs : Array Value} {t : TypeId} {y : α} (hb : W.heap[g]? = some (.cells cs t)) (hc : cs.toList = f y) : SeesR f m W (.slice (some ⟨g, 0, none⟩) 1 1) [y] := by
 refine ⟨_, 1, rfl, by simp, by simp [maxLen], .inr ⟨g, 0, rfl, fun i p hp j u hu => ?_⟩⟩
 match i, hp with
 | 0, hp =>
  simp at hp; subst hp
  simp only [Nat.zero_mul, Nat.zero_add]
  refine cellAt hb j ?_
  rw [← hc] at hu
  simpa using hu
 | i + 1, hp => simp at hp
theorem Sep.into {R x : Res} (S : Sep w (R :: Rs) W) (j : Nat) (hj : Rs[j]? = some x) : Sep w (Rs.set j R) W := by
 obtain ⟨h1, e⟩ := List.getElem?_eq_some_iff.1 hj
 have e1 : Rs = Rs.take j ++ x :: Rs.drop (j + 1) := by rw [← e]; simp
 have e2 : Rs.set j R = Rs.take j ++ R :: Rs.drop (j + 1) := by rw [List.set_eq_take_append_cons_drop, if_pos h1]
 rw [e2]
 refine (S.sub (Qs := R :: (Rs.take j ++ Rs.drop (j + 1))) (.cons_cons _ ?_)).behind
 conv => rhs; rw [e1]
 exact List.Sublist.append (List.Sublist.refl _) (.cons _ (List.Sublist.refl _))
theorem Sep.madeRow (S : Sep w Rs W) (f : α → List Value) (m : Nat) (e : TypeId) : Sep w (rowR e m f (.slice (some ⟨W.heap.size, 0, none⟩) 0 0) [] :: Rs) (W.alloc (.cells #[] e)) :=
 S.addRow (belowAlloc W _) (World.ownsRow_made W #[] 0 (Nat.zero_le _) (Nat.zero_le _) (by simp)) (by simp [Value.ownBlock])
end
section
variable {w W : World} {Rs : List Res}
/-- Something lies there. -/
def anyR (q : Nat) : Res := ⟨fun W F => (∃ o, W.heap[q]? = some o) ∧ F = [q], fun {W W' F} h k => ⟨by obtain ⟨⟨o, ho⟩, h2⟩ := h; exact ⟨o, (k q (by rw [h2]; simp)).trans ho⟩, h.2⟩, fun {W F} h b' hb => by
 obtain ⟨⟨o, ho⟩, h2⟩ := h
 rw [h2] at hb; simp at hb; subst hb; exact blockLt ho⟩
theorem Sep.toAny (S : Sep w Rs W) {q : Nat} {o : Obj} (j : Nat) (hj : Rs[j]? = some (boxR q o)) : Sep w (Rs.set j (anyR q)) W :=
 S.turn j hj fun F hF hn _ => ⟨F, ⟨⟨o, hF.1⟩, hF.2⟩, hn, Grow.refl _ _, Outside.refl _ _⟩
theorem Sep.poke {q : Nat} (S : Sep w Rs W) (j : Nat) (hj : Rs[j]? = some (anyR q)) (k : Nat) (u : Value) : Sep w Rs (W.setCell ⟨q, k, none⟩ u) := by
 have h := S.turn (R' := anyR q) (W' := W.setCell ⟨q, k, none⟩ u) j hj fun F hF hn _ => by
  obtain ⟨⟨o, ho⟩, h2⟩ := hF
  refine ⟨F, ⟨?_, h2⟩, hn, Grow.refl _ _, by rw [h2]; exact (Outside.refl _ _).setCell (.inl (by simp)) u⟩
  have hlt := blockLt ho
  exact ⟨(W.setCell ⟨q, k, none⟩ u).heap[q]'(by rw [size_setCell]; exact hlt), by simp [hlt]⟩
 rwa [Sep.setSame hj] at h
end
end Go.Proofs.YtijlebhoapdfnaaGreat
