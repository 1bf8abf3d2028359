/- Classes that are made one after the other: plainly. -/
import Derived.Test.YtkocenlglodklaaClsM
import Derived.Test.YtkocenlglodklaaLinAll
namespace Go.Proofs.Ytkocenlglodklaa
set_option linter.unusedSimpArgs false
open Go.RowKit
set_option linter.unusedVariables false
/-- The classes of ObjectOrders so far. -/
structure OInv (H : HeapM) (made : List V) (rows O : List (List Int)) (i : Nat) (sp : V) : Prop where
  fit : H.Fit (60 * i + 10)
  cls : H.Cls
  last : H.last = (made.length : Int) + 1
  mem : ∀ (k : Nat) (c : V), made[k]? = some c → H.isClass c = true ∧ c = c.asRef ∧ c.n = (k : Int) + 2 ∧ H.ordN c = (ordOf O k).map (· + 2)
  len : made.length ≤ i
  all : allM rows = some O
  rl : rows.length = made.length
  short : ∀ r ∈ rows, r.length ≤ 4
  kind : H.kind sp = 3
  spp : H.pairs sp = []
theorem HeapM.live_add (H : HeapM) (o : ObjM) : (H.add o).live 0 = H.live 0 + 1 := by
  unfold HeapM.live HeapM.add
  rw [List.filter_append]; simp
/-- The bases of a row. -/
def basesM (made : List V) (r : List Int) : List V := r.map fun b => (made[b.toNat]?).getD V.zero
theorem OInv.out {H : HeapM} {made : List V} {rows O : List (List Int)} {i : Nat} {sp : V} (M : OInv H made rows O i sp) : O.length = made.length ∧ OrdOk O := by
  have := allM_ok M.all
  exact ⟨by rw [this.2, M.rl], this.1⟩
theorem refN_n {x : Int} (h : okI x) : (refN x).n = x := by rw [refN_ok h]; rfl
theorem order_add {H : HeapM} {N : Nat} (G : H.Good N) (C : H.Cls) (o : ObjM) (C' : (H.add o).Cls) {c : V} (hc : H.isClass c = true) : (H.add o).order c = H.order c := by
  rw [C.order hc, C'.order (class_add G o hc), items_add G, if_neg (by have := class_le G hc; omega)]
noncomputable def refTwo (n : Int) : V := refN (n + 2)
theorem map_two (l : List Int) : (l.map (· + 2)).map refN = l.map refTwo := by
  induction l with
  | nil => rfl
  | cons a l ih => rw [List.map_cons, List.map_cons, List.map_cons, ih]; rfl
theorem map_refN_n (L : List V) (h : ∀ x ∈ L, x = x.asRef) : (L.map (·.n)).map refN = L := by
  induction L with
  | nil => rfl
  | cons a l ih => rw [List.map_cons, List.map_cons, refN_of (h a (by simp)), ih fun x hx => h x (by simp [hx])]
theorem refTwo_of {c : V} {m : Nat} (h1 : c = c.asRef) (h2 : c.n = (m : Int) + 2) : c = refTwo m := by
  unfold refTwo
  rw [← h2]
  exact (refN_of h1).symm
/-- One row more. -/
theorem OInv.next {H : HeapM} {made : List V} {rows O : List (List Int)} {i : Nat} {sp : V} (M : OInv H made rows O i sp) (hi : i < 12) {r : List Int} (hr : ∀ b ∈ r, 0 ≤ b ∧ b < (made.length : Int)) (hl : r.length ≤ 4) (s : ByteArray) (hs : s.size ≤ maxLen) (hn : okI (H.last + 1)) :
    (H.mkClass s hs (basesM made r) sp = none ∧ allM (rows ++ [r]) = none) ∨
    ∃ H' O', H.mkClass s hs (basesM made r) sp = some H' ∧ allM (rows ++ [r]) = some O' ∧ OInv H' (made ++ [V.ref (H.last + 1) hn]) (rows ++ [r]) O' (i + 1) sp ∧ H'.live 0 = H.live 0 + 1 ∧ (ordOf O' made.length).map (fun n => ((made ++ [V.ref (H.last + 1) hn])[n.toNat]?).getD V.zero) = H'.order (V.ref (H.last + 1) hn) ∧ ∀ n ∈ ordOf O' made.length, 0 ≤ n ∧ n ≤ (made.length : Int) := by
  obtain ⟨hOl, hok⟩ := M.out
  have hgot : ∀ b ∈ r, ∃ c, made[b.toNat]? = some c ∧ H.isClass c = true ∧ c = c.asRef ∧ c.n = b + 2 ∧ H.ordN c = (ordOf O b).map (· + 2) := fun b hb => by
    have h := hr b hb
    obtain ⟨n, rfl⟩ := Int.eq_ofNat_of_zero_le h.1
    have hlt : n < made.length := by omega
    have := M.mem n made[n] (by simp)
    exact ⟨made[n], by simp [hlt], this⟩
  have hbm : ∀ x ∈ basesM made r, ∃ b ∈ r, made[b.toNat]? = some x := fun x hx => by
    obtain ⟨b, hb, rfl⟩ := List.mem_map.1 hx
    obtain ⟨c, hc, _⟩ := hgot b hb
    exact ⟨b, hb, by rw [hc]; rfl⟩
  have hall : (basesM made r).all H.isClass = true := List.all_eq_true.2 fun x hx => by
    obtain ⟨b, hb, e⟩ := hbm x hx
    obtain ⟨c, hc, h1, _⟩ := hgot b hb
    rw [e] at hc; cases hc; exact h1
  have href : ∀ x ∈ basesM made r, x = x.asRef := fun x hx => by
    obtain ⟨b, hb, e⟩ := hbm x hx
    obtain ⟨c, hc, _, h1, _⟩ := hgot b hb
    rw [e] at hc; cases hc; exact h1
  have e1 : (basesM made r).map H.ordN = (r.map (ordOf O)).map (List.map (· + 2)) := by
    unfold basesM
    rw [List.map_map, List.map_map]
    refine List.map_congr_left fun b hb => ?_
    obtain ⟨c, hc, _, _, _, h1⟩ := hgot b hb
    simp only [Function.comp_apply]
    rw [hc]; exact h1
  have e2 : (basesM made r).map (·.n) = r.map (· + 2) := by
    unfold basesM
    rw [List.map_map]
    refine List.map_congr_left fun b hb => ?_
    obtain ⟨c, hc, _, _, h1, _⟩ := hgot b hb
    simp only [Function.comp_apply]
    rw [hc]; exact h1
  have e3 : H.c3 (basesM made r) = (mergeM (r.map (ordOf O) ++ [r])).map (List.map (· + 2)) := by
    unfold HeapM.c3
    rw [if_pos hall, e1, e2, ← merge_map (· + 2) _ (fun _ _ x _ _ _ y _ e => by simpa using e), List.map_append]
    rfl
  have hrO : ∀ b ∈ r, 0 ≤ b ∧ b < (O.length : Int) := fun b hb => by rw [hOl]; exact hr b hb
  have eA : allM (rows ++ [r]) = stepM O r := by rw [allM_snoc, M.all]; rfl
  cases hm : mergeM (r.map (ordOf O) ++ [r]) with
  | none =>
    left
    rw [hm] at e3
    exact ⟨mkClass_no e3, by rw [eA]; exact stepM_none fun l h => by rw [hm] at h; cases h⟩
  | some l =>
    right
    rw [hm] at e3
    have e3 : H.c3 (basesM made r) = some (l.map (· + 2)) := e3
    have hlm := hok.merged hrO hm
    have hst : stepM O r = some (O ++ [(O.length : Int) :: l]) := stepM_yes hrO hm (fun h => by have := hlm _ h; omega)
    rw [hOl] at hst
    have hmk := mkClass_of (s := s) (hs := hs) e3 M.kind
    rw [M.spp] at hmk
    have hlo := M.last
    have hle := M.len
    have C' := M.cls.made M.fit.G (s := s) (hs := hs) href e3 []
    have F' := M.fit.made (M := 60 * (i + 1) + 10) (s := s) (hs := hs) e3 sp (by rw [M.spp]; simp; omega)
    rw [M.spp] at F'
    have hnew : (H.add (classO s hs (l.map (· + 2)) [])).isClass (V.ref (H.last + 1) hn) = true := by
      unfold HeapM.isClass
      rw [kind_add M.fit.G, if_pos ⟨rfl, rfl⟩]; rfl
    have hoN : (H.add (classO s hs (l.map (· + 2)) [])).ordN (V.ref (H.last + 1) hn) = ((made.length : Int) :: l).map (· + 2) := by
      unfold HeapM.ordN
      rw [C'.order hnew, items_add M.fit.G, if_pos ⟨rfl, rfl⟩]
      show (H.last + 1) :: ((l.map (· + 2)).map refN).map (·.n) = _
      rw [List.map_cons, List.map_map, List.map_map]
      refine List.cons_eq_cons.2 ⟨by omega, List.map_congr_left fun x hx => ?_⟩
      have := hlm x hx
      simp only [Function.comp_apply]
      exact refN_n (x := x + 2) (okI_of (by omega))
    have hoO : ordOf (O ++ [(made.length : Int) :: l]) made.length = (made.length : Int) :: l := by
      unfold ordOf
      rw [Int.toNat_natCast, List.getElem?_append_right (by omega), hOl, Nat.sub_self]; rfl
    have hmem : ∀ (k : Nat) (c : V), (made ++ [V.ref (H.last + 1) hn])[k]? = some c → (H.add (classO s hs (l.map (· + 2)) [])).isClass c = true ∧ c = c.asRef ∧ c.n = (k : Int) + 2 ∧ (H.add (classO s hs (l.map (· + 2)) [])).ordN c = (ordOf (O ++ [(made.length : Int) :: l]) k).map (· + 2) := fun k c hc => by
      by_cases hk : k < made.length
      · rw [List.getElem?_append_left hk] at hc
        obtain ⟨h1, h2, h3, h4⟩ := M.mem k c hc
        refine ⟨class_add M.fit.G _ h1, h2, h3, ?_⟩
        have e : ordOf (O ++ [(made.length : Int) :: l]) k = ordOf O k := by
          unfold ordOf
          rw [Int.toNat_natCast, List.getElem?_append_left (by omega)]
        rw [e, ← h4]
        unfold HeapM.ordN
        rw [order_add M.fit.G M.cls _ C' h1]
      · rw [List.getElem?_append_right (by omega)] at hc
        cases e : k - made.length with
        | zero =>
          rw [e] at hc
          obtain rfl : k = made.length := by omega
          simp at hc
          subst hc
          exact ⟨hnew, rfl, by show H.last + 1 = _; omega, by rw [hoN, hoO]⟩
        | succ j => rw [e] at hc; simp at hc
    refine ⟨_, _, hmk, by rw [eA]; exact hst, ⟨F', C', ?_, hmem, by simp; omega, by rw [eA]; exact hst, by simp [M.rl], fun q hq => ?_, ?_, ?_⟩, H.live_add _, ?_, ?_⟩
    · show H.last + 1 = _
      simp; omega
    · rcases List.mem_append.1 hq with h | h
      · exact M.short q h
      · simp at h; subst h; exact hl
    · have := kind_le M.fit.G (v := sp) (by rw [M.kind]; omega)
      rw [kind_add M.fit.G, if_neg (by omega)]; exact M.kind
    · have := kind_le M.fit.G (v := sp) (by rw [M.kind]; omega)
      rw [pairs_add M.fit.G, if_neg (by omega)]; exact M.spp
    · rw [hoO]
      have h1 : ((H.add (classO s hs (l.map (· + 2)) [])).ordN (V.ref (H.last + 1) hn)).map refN = (H.add (classO s hs (l.map (· + 2)) [])).order (V.ref (H.last + 1) hn) := map_refN_n _ fun x hx => (C'.order_mem hx).2.2.1
      rw [← h1, hoN, map_two]
      refine List.map_congr_left fun n hnm => ?_
      have hb : 0 ≤ n ∧ n ≤ (made.length : Int) := by
        rcases List.mem_cons.1 hnm with e | e
        · subst e; omega
        · have := hlm n e; omega
      obtain ⟨m, rfl⟩ := Int.eq_ofNat_of_zero_le hb.1
      have hlt : m < (made ++ [V.ref (H.last + 1) hn]).length := by simp; omega
      obtain ⟨c, hc⟩ : ∃ c, (made ++ [V.ref (H.last + 1) hn])[m]? = some c := ⟨_, List.getElem?_eq_getElem hlt⟩
      rw [Int.toNat_natCast, hc]
      have := hmem m c hc
      exact refTwo_of this.2.1 this.2.2.1
    · rw [hoO]
      intro n hnm
      rcases List.mem_cons.1 hnm with e | e
      · subst e; omega
      · have := hlm n e; omega
theorem OInv.more {H : HeapM} {made : List V} {rows O : List (List Int)} {i : Nat} {sp : V} (M : OInv H made rows O i sp) : OInv H made rows O (i + 1) sp :=
  ⟨M.fit.more (by omega), M.cls, M.last, M.mem, by have := M.len; omega, M.all, M.rl, M.short, M.kind, M.spp⟩
/-- The space alone. -/
def spO : ObjM := ⟨3, ⟨#[]⟩, 0, [], [], by decide, by decide, by decide⟩
def r1O : V := V.ref 1 (by decide)
theorem OInv.start : OInv ((⟨[], 0⟩ : HeapM).add spO) [] [] [] 0 r1O :=
  ⟨fit_empty.addP spO (by decide) rfl (by simp [spO]), cls_empty.add fit_empty.G spO (fun h => by exact absurd h (by decide)), rfl, by simp, by simp, rfl, rfl, by simp, rfl, rfl⟩
end Go.Proofs.Ytkocenlglodklaa
