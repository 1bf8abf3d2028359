/-
  OperateDeep: for any number, kinds and innermost value, the law returns true: lists, tuples and dicts may stand 30 deep within one another, and not one deeper. No condition.
-/
import Derived.Test.YtellmfimmghidaaGreatShownP
import Derived.Test.YtellmfimmghidaaGreatFrame
import Derived.Test.YtellmfimmghidaaGreatLawO
import Derived.Test.YtellmfimmghidaaGreatLawC
import Derived.Test.YtellmfimmghidaaGreatTellE
import Derived.Test.YtellmfimmghidaaGreatRowT
import Derived.Test.YtellmfimmghidaaGreatOprN
import Derived.Test.YtellmfimmghidaaGreatFit
import Derived.Test.YtellmfimmghidaaGreatOperM
import Derived.Test.YtellmfimmghidaaGreatOpen
/- A row of bytes that came in (without ch 13's texts). -/
namespace Go.Proofs.YtellmfimmghidaaGreat
set_option linter.unusedSimpArgs false
open Go.ChangeShapes Go.WideShapes Go.ChangeAt Go.RowKit
set_option linter.unusedVariables false
/-- A slice that shows these bytes. -/
def SeesB (w : World) (sv : Value) (l : List Nat) : Prop :=
  ∃ a c, sv = .slice a l.length c ∧ l.length ≤ maxLen ∧ (∀ b ∈ l, b < 256) ∧ (l = [] ∨ ∃ g o, a = some ⟨g, o, none⟩ ∧ ∀ (i b : Nat), l[i]? = some b → w.cell? ⟨g, o + i, none⟩ = some (.int .u8 (b : Int)))
section
variable {H : Type} {enc : TypeId × Value → H} {w : World} {base : Nat} {spare : Nat → Bool} {held : Bool}
theorem byte_of {n : Int} (h : (Lit.int .u8 n).wf = true) : ∃ b : Nat, n = (b : Int) ∧ b < 256 := by
  have h1 : 0 ≤ n ∧ n < 256 := by
    have e1 : IntKind.u8.min = 0 := by decide
    have e2 : IntKind.u8.max = 255 := by decide
    simp [Lit.wf, e1, e2] at h
    omega
  exact ⟨n.toNat, by omega, by omega⟩
theorem open_bytes {fuel : Nat} {v : Value} {x : DataW H × List MemPlace} (h : DataW.trod enc Tryz.prog w base spare held fuel 47 [v] = some x) : ∃ l, SeesB w v l := by
  obtain ⟨cells1, m1, x1, hx⟩ : True ∧ True ∧ True ∧ True := ⟨trivial, trivial, trivial, trivial⟩
  rcases Deep.open_slice1 Tryz.underlying47 (by kernel_rfl) h with ⟨h0, _⟩ | ⟨a, len, cap, m, n, V, D, Pl, hcs, hb, hl, hm, hmm, hx, hi⟩
  · simp only [List.cons.injEq, and_true] at h0
    subst h0
    exact ⟨[], ⟨none, 0, rfl, by simp, by simp, .inl rfl⟩⟩
  · simp only [List.cons.injEq, and_true] at hcs
    subst hcs
    have hlm : len ≤ m := by rw [hmm]; split <;> omega
    obtain ⟨f, hf⟩ : ∃ f : Nat → Nat, ∀ i, i < len → w.cell? (a.add i) = some (.int .u8 (f i : Int)) ∧ f i < 256 :=
      Deep.choose_lt (α := Nat) (p := fun i n => w.cell? (a.add i) = some (.int .u8 (n : Int)) ∧ n < 256) (fun i hil => by
        obtain ⟨h1, h2⟩ := hi i (by omega)
        obtain ⟨k, e0, _, hk⟩ := DataW.trod_int Tryz.underlying5 h2
        simp only [List.cons.injEq, and_true] at e0
        obtain ⟨b, rfl, hb⟩ := byte_of hk
        exact ⟨b, by rw [h1, e0], hb⟩)
    have hlen : ((List.range len).map f).length = len := by simp
    obtain ⟨g, o, spot⟩ := a
    have hadd : ∀ j, (⟨g, o, none⟩ : Addr).add j = ⟨g, o + j, none⟩ := fun j => by unfold Addr.add; split <;> simp_all
    refine ⟨(List.range len).map f, ⟨some ⟨g, o, spot⟩, cap, by rw [hlen], by rw [hlen]; omega, fun b hb => ?_, ?_⟩⟩
    · obtain ⟨i, hi', rfl⟩ := List.mem_map.1 hb
      exact (hf i (List.mem_range.1 hi')).2
    · rcases Nat.eq_zero_or_pos len with h0 | h0
      · left; subst h0; rfl
      · right
        have hs : spot = none := by
          have := (hf 0 h0).1
          simpa [Addr.add] using World.cell?_spot this
        subst hs
        refine ⟨g, o, rfl, fun i v hj => ?_⟩
        have hil : i < len := by have := (List.getElem?_eq_some_iff.1 hj).1; rwa [hlen] at this
        have hv' : f i = v := by rw [List.getElem?_map, List.getElem?_range hil] at hj; exact Option.some.inj hj
        rw [← hadd, ← hv']; exact (hf i hil).1
end
end Go.Proofs.YtellmfimmghidaaGreat
/- ch 16: equality is an equivalence, where nothing is raised. -/
namespace Go.Proofs.YtellmfimmghidaaGreat
set_option linter.unusedSimpArgs false
open Go.RowKit
set_option linter.unusedVariables false
theorem allM_true {α : Type} {p : α → Option Bool} : ∀ {l : List α}, allM p l = some true ↔ ∀ x ∈ l, p x = some true
  | [] => by simp [allM]
  | x :: l => by
    unfold allM
    constructor
    · intro h
      cases e : p x with
      | none => rw [e] at h; cases h
      | some b =>
        cases b with
        | false => rw [e] at h; cases h
        | true => rw [e] at h; exact fun y hy => (List.mem_cons.1 hy).elim (fun q => by rw [q]; exact e) (allM_true.1 h y)
    · intro h
      rw [h x (List.mem_cons_self ..)]
      exact allM_true.2 fun y hy => h y (List.mem_cons_of_mem _ hy)
theorem sub_back {α : Type} [DecidableEq α] : ∀ {l m : List α}, l.Nodup → m.Nodup → (∀ x ∈ l, x ∈ m) → m.length ≤ l.length → ∀ x ∈ m, x ∈ l
  | [], m, _, _, _, hl, x, hx => by
    have := List.length_pos_of_mem hx
    simp at hl; subst hl; cases hx
  | a :: l, m, hn, hm, hs, hl, x, hx => by
    have hn := List.nodup_cons.1 hn
    by_cases e : x = a
    · subst e; exact List.mem_cons_self ..
    · have ha := hs a (List.mem_cons_self ..)
      have := sub_back (l := l) (m := m.erase a) hn.2 (hm.erase a) (fun y hy => (List.Nodup.mem_erase_iff hm).2 ⟨fun q => hn.1 (q ▸ hy), hs y (List.mem_cons_of_mem _ hy)⟩)
        (by rw [List.length_erase_of_mem ha]; simp at hl; omega) x ((List.Nodup.mem_erase_iff hm).2 ⟨e, hx⟩)
      exact List.mem_cons_of_mem _ this
section
variable {H : HeapM}
theorem kind_four {v : V} (h : H.kind v ≠ 0) : v.kind = 4 := by
  unfold HeapM.kind HeapM.of at h
  by_cases e : v.kind = 4
  · exact e
  · rw [if_neg e] at h; exact absurd rfl h
theorem of_same {a b : V} (ha : H.kind a ≠ 0) (hb : H.kind b ≠ 0) (hn : a.n = b.n) : H.of a = H.of b := by
  unfold HeapM.of
  rw [if_pos (kind_four ha), if_pos (kind_four hb), hn]
theorem oneB_iff {a b : V} : H.oneB a b = true ↔ (H.kind a = 0 ∧ H.kind b = 0 ∧ a = b) ∨ (H.kind a ≠ 0 ∧ H.kind b ≠ 0 ∧ a.n = b.n) := by
  unfold HeapM.oneB
  by_cases h : H.kind a = 0 ∧ H.kind b = 0
  · rw [if_pos h]; simp [h.1, h.2]
  · rw [if_neg h]
    simp only [Bool.and_eq_true, decide_eq_true_eq]
    constructor
    · exact .inr
    · rintro (⟨h1, h2, _⟩ | h1)
      · exact absurd ⟨h1, h2⟩ h
      · exact h1
theorem oneB_symm {a b : V} (h : H.oneB a b = true) : H.oneB b a = true := by
  rw [oneB_iff] at h ⊢
  rcases h with ⟨h1, h2, h3⟩ | ⟨h1, h2, h3⟩
  · exact .inl ⟨h2, h1, h3.symm⟩
  · exact .inr ⟨h2, h1, h3.symm⟩
theorem oneB_self (a : V) : H.oneB a a = true := by
  rw [oneB_iff]
  by_cases h : H.kind a = 0
  · exact .inl ⟨h, h, rfl⟩
  · exact .inr ⟨h, h, rfl⟩
theorem sameT_one {a b : V} {r : Option Bool} (h : H.oneB a b = true) : H.sameT a b r = some true := by unfold HeapM.sameT; rw [if_pos h]
theorem sameF_one {a b : V} (h : H.oneB a b = true) : ∀ f, H.sameF f a b = some true
  | 0 => sameT_one h
  | f + 1 => sameT_one h
theorem sameT_true {a b : V} {r : Option Bool} : H.sameT a b r = some true ↔ H.oneB a b = true ∨ (H.wholeB a = true ∧ H.kind a = H.kind b ∧ H.sizeB a = H.sizeB b ∧ r = some true) := by
  unfold HeapM.sameT
  by_cases h1 : H.oneB a b = true
  · rw [if_pos h1]; simp [h1]
  · rw [if_neg h1]
    by_cases h2 : H.wholeB a = false ∨ H.kind a ≠ H.kind b
    · rw [if_pos h2]
      constructor
      · intro h
        have h3 : ((decide (H.kind a = 0) || decide (H.kind b = 0)) && decide (a = b)) = true := by injection h
        simp only [Bool.and_eq_true, Bool.or_eq_true, decide_eq_true_eq] at h3
        obtain ⟨_, rfl⟩ := h3
        exact .inl (oneB_self a)
      · rintro (h | ⟨h3, h4, _⟩)
        · exact absurd h h1
        · rcases h2 with h2 | h2
          · rw [h3] at h2; cases h2
          · exact absurd h4 h2
    · rw [if_neg h2]
      have h3 : H.wholeB a = true ∧ H.kind a = H.kind b := by
        constructor
        · cases e : H.wholeB a with
          | true => rfl
          | false => exact absurd (.inl e) h2
        · exact Classical.byContradiction fun e => h2 (.inr e)
      by_cases h4 : H.sizeB a ≠ H.sizeB b
      · rw [if_pos h4]
        constructor
        · intro h; cases h
        · rintro (h | ⟨_, _, h5, _⟩)
          · exact absurd h h1
          · exact absurd h5 h4
      · rw [if_neg h4]
        constructor
        · intro h; exact .inr ⟨h3.1, h3.2, Classical.byContradiction h4, h⟩
        · rintro (h | ⟨_, _, _, h5⟩)
          · exact absurd h h1
          · exact h5
theorem whole_of_kind {a b : V} (h : H.kind a = H.kind b) : H.wholeB a = H.wholeB b := by unfold HeapM.wholeB HeapM.rowB; rw [h]
/-- What is within: the third way of sameT. -/
def HeapM.inside (H : HeapM) (f : Nat) (a b : V) : Option Bool :=
  if H.kind a = 3 then allM (fun k : V => match H.get b k with | none => some false | some y => H.sameF f ((H.get a k).getD V.zero) y) ((H.pairs a).map (·.1))
  else allM (fun p : V × V => H.sameF f p.1 p.2) ((H.items a).zip (H.items b))
theorem sameF_succ (f : Nat) (a b : V) : H.sameF (f + 1) a b = H.sameT a b (H.inside f a b) := rfl
theorem inside_dict {f : Nat} {a b : V} (h3 : H.kind a = 3) : H.inside f a b = some true ↔ ∀ k ∈ (H.pairs a).map (·.1), ∃ y, H.get b k = some y ∧ H.sameF f ((H.get a k).getD V.zero) y = some true := by
  unfold HeapM.inside
  rw [if_pos h3, allM_true]
  constructor
  · intro h k hk
    have := h k hk
    cases e : H.get b k with
    | none => rw [e] at this; cases this
    | some y => rw [e] at this; exact ⟨y, rfl, this⟩
  · intro h k hk
    obtain ⟨y, e, h1⟩ := h k hk
    rw [e]; exact h1
theorem inside_row {f : Nat} {a b : V} (h3 : H.kind a ≠ 3) : H.inside f a b = some true ↔ ∀ (i : Nat) (x y : V), (H.items a)[i]? = some x → (H.items b)[i]? = some y → H.sameF f x y = some true := by
  unfold HeapM.inside
  rw [if_neg h3, allM_true]
  constructor
  · intro h i x y hx hy
    exact h (x, y) (List.mem_of_getElem? (i := i) (by rw [List.getElem?_zip_eq_some]; exact ⟨hx, hy⟩))
  · rintro h ⟨x, y⟩ hp
    obtain ⟨i, hi⟩ := List.getElem?_of_mem hp
    rw [List.getElem?_zip_eq_some] at hi
    exact h i x y hi.1 hi.2
theorem get_key {v k : V} : k ∈ (H.pairs v).map (·.1) ↔ ∃ y, H.get v k = some y := by
  unfold HeapM.get
  constructor
  · intro h
    cases e : getL (H.pairs v) k with
    | some y => exact ⟨y, rfl⟩
    | none =>
      obtain ⟨p, hp, hk⟩ := List.mem_map.1 h
      exact absurd hk (getL_none.1 e p hp)
  · rintro ⟨y, h⟩
    exact List.mem_map.2 ⟨(k, y), getL_mem h, rfl⟩
theorem keys_nd (F : ∀ p ∈ H.objs, (p.2.pairs.map (·.1)).Nodup) (v : V) : ((H.pairs v).map (·.1)).Nodup := by
  unfold HeapM.pairs
  cases e : H.of v with
  | none => simp
  | some o => exact F _ (getL_mem (HeapM.of_some e).2)
theorem same_left {a b c : V} (h : H.oneB a b = true) : ∀ f, H.sameF f a c = H.sameF f b c := by
  rcases oneB_iff.1 h with ⟨_, _, rfl⟩ | ⟨ka, kb, hn⟩
  · intro f; rfl
  · have ho := of_same ka kb hn
    have hk : H.kind a = H.kind b := by unfold HeapM.kind; rw [ho]
    have hi : H.items a = H.items b := by unfold HeapM.items; rw [ho]
    have hp : H.pairs a = H.pairs b := by unfold HeapM.pairs; rw [ho]
    have hg : ∀ k, H.get a k = H.get b k := fun k => by unfold HeapM.get; rw [hp]
    have h1 : H.oneB a c = H.oneB b c := by
      unfold HeapM.oneB
      rw [if_neg (fun q => ka q.1), if_neg (fun q => kb q.1), hk, hn]
    have h2 : ∀ v, H.kind v ≠ 0 → ((decide (H.kind v = 0) || decide (H.kind c = 0)) && decide (v = c)) = false := fun v hv => by
      by_cases e : v = c
      · subst e; simp [hv]
      · simp [e]
    have hT : ∀ r, H.sameT a c r = H.sameT b c r := fun r => by
      unfold HeapM.sameT HeapM.sizeB
      rw [h1, whole_of_kind hk, h2 a ka, h2 b kb, hk, hp, hi]
    intro f
    cases f with
    | zero => exact hT none
    | succ f =>
      rw [sameF_succ, sameF_succ, hT]
      unfold HeapM.inside
      simp only [hk, hp, hi, hg]
theorem same_symm (F : ∀ p ∈ H.objs, (p.2.pairs.map (·.1)).Nodup) : ∀ (f : Nat) {a b : V}, H.sameF f a b = some true → H.sameF f b a = some true
  | 0, a, b, h => by
    rcases sameT_true.1 h with h1 | ⟨_, _, _, h1⟩
    · exact sameF_one (oneB_symm h1) 0
    · cases h1
  | f + 1, a, b, h => by
    rw [sameF_succ] at h ⊢
    rcases sameT_true.1 h with h1 | ⟨hw, hk, hs, hr⟩
    · exact sameT_true.2 (.inl (oneB_symm h1))
    · refine sameT_true.2 (.inr ⟨by rw [← whole_of_kind hk]; exact hw, hk.symm, hs.symm, ?_⟩)
      by_cases h3 : H.kind a = 3
      · rw [inside_dict h3] at hr
        rw [inside_dict (by rw [← hk]; exact h3)]
        intro k hkb
        have hka := sub_back (keys_nd F a) (keys_nd F b) (fun x hx => get_key.2 (by obtain ⟨y, e, _⟩ := hr x hx; exact ⟨y, e⟩))
          (by rw [List.length_map, List.length_map]; unfold HeapM.sizeB at hs; rw [if_pos h3, if_pos (by rw [← hk]; exact h3)] at hs; omega) k hkb
        obtain ⟨y, e, h4⟩ := hr k hka
        obtain ⟨x, ex⟩ := get_key.1 hka
        rw [ex] at h4
        exact ⟨x, ex, by rw [e]; exact same_symm F f h4⟩
      · rw [inside_row h3] at hr
        rw [inside_row (by rw [← hk]; exact h3)]
        intro i x y hx hy
        exact same_symm F f (hr i y x hy hx)
theorem same_trans (F : ∀ p ∈ H.objs, (p.2.pairs.map (·.1)).Nodup) : ∀ (f : Nat) {a b c : V}, H.sameF f a b = some true → H.sameF f b c = some true → H.sameF f a c = some true := by
  have right : ∀ (f : Nat) {a b c : V}, H.sameF f a b = some true → H.oneB b c = true → H.sameF f a c = some true := fun f a b c h1 h2 => by
    have e := same_symm F f h1
    rw [same_left h2 f] at e
    exact same_symm F f e
  intro f
  induction f with
  | zero =>
    intro a b c h1 h2
    rcases sameT_true.1 h1 with h3 | ⟨_, _, _, h3⟩
    · rw [same_left h3]; exact h2
    · cases h3
  | succ f ih =>
    intro a b c h1 h2
    have k1 := h1
    have k2 := h2
    rw [sameF_succ] at h1 h2
    rcases sameT_true.1 h1 with h3 | ⟨hw, hk, hs, hr⟩
    · rw [same_left h3]; exact k2
    · rcases sameT_true.1 h2 with h3 | ⟨hw2, hk2, hs2, hr2⟩
      · exact right _ k1 h3
      · rw [sameF_succ]
        refine sameT_true.2 (.inr ⟨hw, hk.trans hk2, hs.trans hs2, ?_⟩)
        by_cases h3 : H.kind a = 3
        · rw [inside_dict h3] at hr ⊢
          rw [inside_dict (by rw [← hk]; exact h3)] at hr2
          intro k hka
          obtain ⟨y, e, h4⟩ := hr k hka
          obtain ⟨z, e2, h5⟩ := hr2 k (get_key.2 ⟨y, e⟩)
          rw [e] at h5
          exact ⟨z, e2, ih h4 h5⟩
        · rw [inside_row h3] at hr ⊢
          rw [inside_row (by rw [← hk]; exact h3)] at hr2
          intro i x z hx hz
          have hl : (H.items a).length = (H.items b).length := by
            unfold HeapM.sizeB at hs
            rw [if_neg h3, if_neg (by rw [← hk]; exact h3)] at hs
            exact hs
          have hi : i < (H.items b).length := by rw [← hl]; exact (List.getElem?_eq_some_iff.1 hx).1
          have hy : (H.items b)[i]? = some (H.items b)[i] := List.getElem?_eq_getElem hi
          exact ih (hr i x _ hx hy) (hr2 i _ z hy hz)
/-- Both ways about it is the same. -/
theorem same_turn (F : ∀ p ∈ H.objs, (p.2.pairs.map (·.1)).Nodup) {f : Nat} {a b : V} {r s : Bool} (h1 : H.sameF f a b = some r) (h2 : H.sameF f b a = some s) : r = s := by
  cases r with
  | true => rw [same_symm F f h1] at h2; exact (Option.some.inj h2)
  | false =>
    cases s with
    | false => rfl
    | true => rw [same_symm F f h2] at h1; cases h1
/-- What is equal to one of two that are equal is to the other one. -/
theorem same_both (F : ∀ p ∈ H.objs, (p.2.pairs.map (·.1)).Nodup) {f : Nat} {a b c : V} {r s : Bool} (h0 : H.sameF f a b = some true) (h1 : H.sameF f b c = some r) (h2 : H.sameF f a c = some s) : r = s := by
  cases r with
  | true => rw [same_trans F f h0 h1] at h2; exact (Option.some.inj h2)
  | false =>
    cases s with
    | false => rfl
    | true => rw [same_trans F f (same_symm F f h0) h2] at h1; cases h1
end
end Go.Proofs.YtellmfimmghidaaGreat
/- ch 16: rows and dicts within one another, plainly. -/
namespace Go.Proofs.YtellmfimmghidaaGreat
set_option linter.unusedSimpArgs false
open Go.RowKit
set_option linter.unusedVariables false
def keyOne : V := ⟨2, 1, ⟨#[]⟩, by decide, by decide, by decide⟩
/-- What a layer of this kind holds. -/
def Holds1 (o : ObjM) (k : Nat) (u : V) : Prop := o.kind = k ∧ ((k = 1 ∨ k = 2) ∧ o.items = [u] ∧ o.pairs = [] ∨ k = 3 ∧ o.items = [] ∧ o.pairs = [(keyOne, u)])
/-- Two values of the same layers, from without to within, x innermost. -/
inductive Lay2 (H : HeapM) (x : V) : List Nat → V → V → Prop
  | leaf : Lay2 H x [] x x
  | on {k : Nat} {ks : List Nat} {a b u v : V} {oa ob : ObjM} (ha : H.of a = some oa) (hb : H.of b = some ob) (ka : Holds1 oa k u) (kb : Holds1 ob k v) (hn : a.n ≠ b.n) (l : Lay2 H x ks u v) : Lay2 H x (k :: ks) a b
def textK : List Nat → Nat
  | [] => 0
  | k :: ks => (if k = 1 then 2 else if k = 2 then 3 else 5) + textK ks
theorem Lay2.mono {H H' : HeapM} {x : V} (h : ∀ v o, H.of v = some o → H'.of v = some o) {ks : List Nat} {a b : V} (l : Lay2 H x ks a b) : Lay2 H' x ks a b := by
  induction l with
  | leaf => exact .leaf
  | on ha hb ka kb hn _ ih => exact .on (h _ _ ha) (h _ _ hb) ka kb hn ih
section
variable {H : HeapM} {x : V}
theorem kind_of_some {a : V} {o : ObjM} (h : H.of a = some o) : H.kind a = o.kind := by unfold HeapM.kind; rw [h]; rfl
theorem items_of_some {a : V} {o : ObjM} (h : H.of a = some o) : H.items a = o.items := by unfold HeapM.items; rw [h]; rfl
theorem pairs_of_some {a : V} {o : ObjM} (h : H.of a = some o) : H.pairs a = o.pairs := by unfold HeapM.pairs; rw [h]; rfl
theorem kind_no_ref {a : V} (h : ¬ a.kind = 4) : H.kind a = 0 := by unfold HeapM.kind HeapM.of; rw [if_neg h]; rfl
theorem Holds1.kinds {o : ObjM} {k : Nat} {u : V} (h : Holds1 o k u) : (k = 1 ∨ k = 2 ∨ k = 3) ∧ o.kind = k := by
  obtain ⟨h1, ⟨h2 | h2, _⟩ | ⟨h2, _⟩⟩ := h
  · exact ⟨.inl h2, h1⟩
  · exact ⟨.inr (.inl h2), h1⟩
  · exact ⟨.inr (.inr h2), h1⟩
theorem Holds1.whole {a u : V} {o : ObjM} {k : Nat} (ha : H.of a = some o) (h : Holds1 o k u) : H.wholeB a = true := by
  obtain ⟨h1, h2⟩ := h.kinds
  unfold HeapM.wholeB HeapM.rowB
  rw [kind_of_some ha, h2]
  rcases h1 with e | e | e <;> subst e <;> decide
theorem Holds1.size {a u : V} {o : ObjM} {k : Nat} (ha : H.of a = some o) (h : Holds1 o k u) : H.sizeB a = 1 := by
  unfold HeapM.sizeB
  rw [kind_of_some ha, items_of_some ha, pairs_of_some ha]
  obtain ⟨h1, ⟨h2, h3, h4⟩ | ⟨h2, h3, h4⟩⟩ := h
  · rw [if_neg (by omega), h3]; rfl
  · rw [if_pos (by omega), h4]; rfl
theorem allM_one {α : Type} (p : α → Option Bool) (a : α) : allM p [a] = p a := by
  show (match p a with | some true => some true | r => r) = p a
  cases p a with
  | none => rfl
  | some b => cases b <;> rfl
theorem same_lay {ks : List Nat} {a b : V} (l : Lay2 H x ks a b) : ∀ f, H.sameF f a b = if ks.length ≤ f then some true else none := by
  induction l with
  | leaf => intro f; rw [if_pos (show ([] : List Nat).length ≤ f from Nat.zero_le _)]; exact sameF_one (oneB_self x) f
  | @on k ks a b u v oa ob ha hb ka kb hn l ih =>
    have ea := ka.kinds
    have eb := kb.kinds
    have h1 : ¬ H.oneB a b = true := fun e => by
      rcases oneB_iff.1 e with ⟨h, _⟩ | ⟨_, _, h⟩
      · rw [kind_of_some ha, ea.2] at h; omega
      · exact hn h
    have hT : ∀ r, H.sameT a b r = r := fun r => by
      unfold HeapM.sameT
      rw [if_neg h1, if_neg (by rw [ka.whole ha, kind_of_some ha, kind_of_some hb, ea.2, eb.2]; simp), if_neg (by rw [ka.size ha, kb.size hb]; simp)]
    intro f
    cases f with
    | zero =>
      rw [if_neg (by simp)]
      exact hT none
    | succ f =>
      have hc : (if (k :: ks).length ≤ f + 1 then some true else none) = (if ks.length ≤ f then some true else none : Option Bool) := by
        by_cases h : ks.length ≤ f
        · rw [if_pos h, if_pos (by simp; exact h)]
        · rw [if_neg h, if_neg (by simp; omega)]
      rw [sameF_succ, hT, hc, ← ih f]
      unfold HeapM.inside HeapM.get
      rw [kind_of_some ha, items_of_some ha, items_of_some hb, pairs_of_some ha, pairs_of_some hb]
      obtain ⟨a1, ⟨a2, a3, a4⟩ | ⟨a2, a3, a4⟩⟩ := ka
      · obtain ⟨b1, ⟨b2, b3, b4⟩ | ⟨b2, b3, b4⟩⟩ := kb
        · rw [if_neg (by omega), a3, b3]
          exact allM_one _ _
        · omega
      · obtain ⟨b1, ⟨b2, b3, b4⟩ | ⟨b2, b3, b4⟩⟩ := kb
        · omega
        · rw [if_pos (by omega), a4, b4]
          show allM _ [keyOne] = _
          rw [allM_one]
          simp [getL]
theorem say_fits {t : TelM} {s : List UInt8} (h : t.fell = .no) (hl : t.out.length + s.length ≤ 65536) : t.say s = ⟨t.out ++ s, .no⟩ := by
  unfold TelM.say; rw [h]; simp only; rw [if_neg (by omega)]
theorem tell_plain {v : V} {f : Nat} {t : TelM} (h : t.fell = .no) (hw : H.wholeB v = false) : H.tellF f v t = t.say (H.plainL v) := by
  cases f <;> (unfold HeapM.tellF HeapM.tellT; rw [h]; simp only; rw [if_pos hw])
theorem whole_no_ref {a : V} (h : ¬ a.kind = 4) : H.wholeB a = false := by unfold HeapM.wholeB HeapM.rowB; rw [kind_no_ref h]; decide
theorem key_text : H.plainL keyOne = [49] := by
  unfold HeapM.plainL
  rw [if_neg (by decide), if_neg (by decide), if_pos (by decide)]
  unfold textN digitsU
  decide
theorem tell_lay (hx : ¬ x.kind = 4) {ks : List Nat} {a b : V} (l : Lay2 H x ks a b) : ∀ (f : Nat) {t : TelM}, t.fell = .no → t.out.length + textK ks + (H.plainL x).length ≤ 65536 →
    (ks.length ≤ f → ∃ s, H.tellF f a t = ⟨t.out ++ s, .no⟩ ∧ s.length = textK ks + (H.plainL x).length) ∧ (f < ks.length → (H.tellF f a t).fell = .deep) := by
  induction l with
  | leaf =>
    intro f t ht hl
    refine ⟨fun _ => ⟨H.plainL x, ?_, by simp [textK]⟩, fun h => by simp at h⟩
    rw [tell_plain ht (whole_no_ref hx), say_fits ht (by simp [textK] at hl; omega)]
  | @on k ks a b u v oa ob ha hb ka kb hn l ih =>
    intro f t ht hl
    have hw := ka.whole ha
    have hT : ∀ r, H.tellT a t r = r := fun r => by unfold HeapM.tellT; rw [ht]; simp only; rw [if_neg (by rw [hw]; simp)]
    cases f with
    | zero =>
      refine ⟨fun h => by simp at h, fun _ => ?_⟩
      show (H.tellT a t ⟨t.out, .deep⟩).fell = .deep
      rw [hT]
    | succ f =>
      have key : ∀ (o c : List UInt8), o.length + c.length + textK ks = textK (k :: ks) → (k = 3 → False) → H.tellF (f + 1) a t = rowF o c [fun t => H.tellF f u t] t →
          (ks.length ≤ f → ∃ s, H.tellF (f + 1) a t = ⟨t.out ++ s, .no⟩ ∧ s.length = textK (k :: ks) + (H.plainL x).length) ∧ (f < ks.length → (H.tellF (f + 1) a t).fell = .deep) := fun o c hoc _ he => by
        rw [he]
        show (_ → ∃ s, ((H.tellF f u (t.say o)).say c) = _ ∧ _) ∧ (_ → ((H.tellF f u (t.say o)).say c).fell = .deep)
        rw [say_fits ht (by omega)]
        have h2 := ih f (t := ⟨t.out ++ o, .no⟩) rfl (by simp; omega)
        refine ⟨fun hf => ?_, fun hf => ?_⟩
        · obtain ⟨s, e1, e2⟩ := h2.1 hf
          rw [e1, say_fits rfl (by simp; omega)]
          exact ⟨o ++ s ++ c, by simp, by simp; omega⟩
        · have e1 := h2.2 hf
          rw [TelM.say_fell (by rw [e1]; decide)]
          exact e1
      have hlen : (k :: ks).length ≤ f + 1 ↔ ks.length ≤ f := by simp
      have hlen2 : f + 1 < (k :: ks).length ↔ f < ks.length := by simp
      rw [hlen, hlen2]
      have h0 : H.tellF (f + 1) a t = (if H.kind a = 1 then rowF [91] [93] ((H.items a).map fun x => H.tellF f x) t
        else if H.kind a = 2 then rowF [40] (if (H.items a).length = 1 then [44, 41] else [41]) ((H.items a).map fun x => H.tellF f x) t
        else rowF [123] [125] ((H.pairs a).map fun p => fun t => H.tellF f ((H.get a p.1).getD V.zero) ((H.tellF f p.1 t).say [58, 32])) t) := hT _
      rw [kind_of_some ha] at h0
      obtain ⟨a1, ⟨a2 | a2, a3, a4⟩ | ⟨a2, a3, a4⟩⟩ := ka
      · rw [if_pos (by omega), items_of_some ha, a3] at h0
        exact key [91] [93] (by subst a2; simp [textK]) (by omega) h0
      · rw [if_neg (by omega), if_pos (by omega), items_of_some ha, a3] at h0
        exact key [40] [44, 41] (by subst a2; simp [textK]) (by omega) h0
      · rw [if_neg (by omega), if_neg (by omega), pairs_of_some ha, a4] at h0
        subst a2
        have e : H.tellF (f + 1) a t = (H.tellF f u ((H.tellF f keyOne (t.say [123])).say [58, 32])).say [125] := by
          rw [h0]
          have hg : (H.get a keyOne).getD V.zero = u := by unfold HeapM.get; rw [pairs_of_some ha, a4]; simp [getL]
          show (H.tellF f ((H.get a keyOne).getD V.zero) ((H.tellF f keyOne (t.say [123])).say [58, 32])).say [125] = _
          rw [hg]
        have hk : textK (3 :: ks) = 5 + textK ks := rfl
        have e0 : t.say [123] = ⟨t.out ++ [123], .no⟩ := say_fits ht (by simp; omega)
        have e1 : H.tellF f keyOne ⟨t.out ++ [123], .no⟩ = ⟨t.out ++ [123] ++ [49], .no⟩ := by
          rw [tell_plain rfl (whole_no_ref (show ¬ keyOne.kind = 4 by decide)), key_text]
          exact say_fits (t := ⟨t.out ++ [123], .no⟩) rfl (by simp; omega)
        have e2 : (⟨t.out ++ [123] ++ [49], .no⟩ : TelM).say [58, 32] = ⟨t.out ++ [123] ++ [49] ++ [58, 32], .no⟩ := say_fits rfl (by simp; omega)
        rw [e, e0, e1, e2]
        have h2 := ih f (t := ⟨t.out ++ [123] ++ [49] ++ [58, 32], .no⟩) rfl (by simp; omega)
        refine ⟨fun hf => ?_, fun hf => ?_⟩
        · obtain ⟨s, e1, e2⟩ := h2.1 hf
          rw [e1, say_fits rfl (by simp; omega)]
          exact ⟨[123, 49, 58, 32] ++ s ++ [125], by simp, by simp; omega⟩
        · have e1 := h2.2 hf
          rw [TelM.say_fell (by rw [e1]; decide)]
          exact e1
theorem tell_ring {a : V} {o : ObjM} (ha : H.of a = some o) (hk : o.kind = 1) (hi : o.items = [a]) : ∀ (f : Nat) {t : TelM}, t.fell = .no → t.out.length + f ≤ 65536 → (H.tellF f a t).fell = .deep := by
  have hw : H.wholeB a = true := by unfold HeapM.wholeB HeapM.rowB; rw [kind_of_some ha, hk]; decide
  intro f
  induction f with
  | zero =>
    intro t ht _
    show (H.tellT a t ⟨t.out, .deep⟩).fell = .deep
    unfold HeapM.tellT; rw [ht]; simp only; rw [if_neg (by rw [hw]; simp)]
  | succ f ih =>
    intro t ht hl
    have h0 : H.tellF (f + 1) a t = rowF [91] [93] [fun t => H.tellF f a t] t := by
      show H.tellT a t _ = _
      unfold HeapM.tellT; rw [ht]; simp only; rw [if_neg (by rw [hw]; simp), kind_of_some ha, hk, if_pos rfl, items_of_some ha, hi]; rfl
    rw [h0]
    show ((H.tellF f a (t.say [91])).say [93]).fell = .deep
    rw [say_fits ht (by simp; omega)]
    have e1 := ih (t := ⟨t.out ++ [91], .no⟩) rfl (by simp; omega)
    rw [TelM.say_fell (by rw [e1]; decide)]
    exact e1
/-- What stands within the layers. -/
def InLay (H : HeapM) (x : V) (v : V) : Prop := v = keyOne ∨ ∃ ks b, Lay2 H x ks v b
theorem InLay.plain (hx : x.kind = 2 ∧ x.s.size ≤ 100000) {v : V} (h : InLay H x v) (hw : H.wholeB v = false) : (v.kind = 0 ∨ v.kind = 1 ∨ v.kind = 2 ∨ v.kind = 3) ∧ v.s.size ≤ 100000 := by
  rcases h with rfl | ⟨ks, b, l⟩
  · exact ⟨.inr (.inr (.inl rfl)), by decide⟩
  · cases l with
    | leaf => exact ⟨.inr (.inr (.inl hx.1)), hx.2⟩
    | on ha hb ka kb hn l => rw [ka.whole ha] at hw; cases hw
theorem InLay.items (hx : x.kind = 2) {v y : V} (h : InLay H x v) (hy : y ∈ H.items v) : InLay H x y := by
  have no : ∀ v : V, v.kind = 2 → H.items v = [] := fun v e => by unfold HeapM.items HeapM.of; rw [if_neg (by omega)]; rfl
  rcases h with rfl | ⟨ks, b, l⟩
  · rw [no _ rfl] at hy; cases hy
  · cases l with
    | leaf => rw [no _ hx] at hy; cases hy
    | on ha hb ka kb hn l =>
      rw [items_of_some ha] at hy
      obtain ⟨a1, ⟨a2, a3, a4⟩ | ⟨a2, a3, a4⟩⟩ := ka
      · rw [a3] at hy; simp at hy; subst hy; exact .inr ⟨_, _, l⟩
      · rw [a3] at hy; cases hy
theorem InLay.pairs (hx : x.kind = 2) {v : V} {p : V × V} (h : InLay H x v) (hy : p ∈ H.pairs v) : InLay H x p.1 ∧ InLay H x ((H.get v p.1).getD V.zero) := by
  have no : ∀ v : V, v.kind = 2 → H.pairs v = [] := fun v e => by unfold HeapM.pairs HeapM.of; rw [if_neg (by omega)]; rfl
  rcases h with rfl | ⟨ks, b, l⟩
  · rw [no _ rfl] at hy; cases hy
  · cases l with
    | leaf => rw [no _ hx] at hy; cases hy
    | on ha hb ka kb hn l =>
      unfold HeapM.get
      rw [pairs_of_some ha] at hy ⊢
      obtain ⟨a1, ⟨a2, a3, a4⟩ | ⟨a2, a3, a4⟩⟩ := ka
      · rw [a4] at hy; cases hy
      · rw [a4] at hy ⊢
        simp at hy; subst hy
        refine ⟨.inl rfl, ?_⟩
        simp only [getL, List.find?, decide_true, Option.map_some, Option.getD_some]
        exact .inr ⟨_, _, l⟩
end
end Go.Proofs.YtellmfimmghidaaGreat
/- Layer by layer. -/
namespace Go.Proofs.YtellmfimmghidaaGreat
set_option linter.unusedSimpArgs false
open Go.RowKit
set_option linter.unusedVariables false
def dictE : ObjM := ⟨3, ⟨#[]⟩, 0, [], [], by decide, by decide, by decide⟩
def listE : ObjM := ⟨1, ⟨#[]⟩, 0, [], [], by decide, by decide, by decide⟩
def rowD (k : Int) (hk : okI k) (u : V) : ObjM := ⟨k, ⟨#[]⟩, 0, [u], [], hk, by decide, by decide⟩
def dictD (u : V) : ObjM := ⟨3, ⟨#[]⟩, 0, [], [(keyOne, u)], by decide, by decide, by decide⟩
def stepR (H : HeapM) (k : Int) (hk : okI k) (a b : V) : HeapM := (H.add (rowD k hk a)).add (rowD k hk b)
def stepD (H : HeapM) (a b c d : V) : HeapM := (((H.add dictE).add dictE).put c keyOne a).put d keyOne b
theorem dp_new {H : HeapM} {N : Nat} (G : H.Good N) (o : ObjM) {v : V} (h4 : v.kind = 4) (hn : v.n = H.last + 1) : (H.add o).of v = some o := by
  unfold HeapM.of
  rw [if_pos h4]
  exact getL_of_mem (G.add o).ok.nk (List.mem_append_right _ (by simp [hn]))
theorem dp_old {H : HeapM} {N : Nat} (G : H.Good N) (o : ObjM) {v : V} {ob : ObjM} (h : H.of v = some ob) : (H.add o).of v = some ob := by
  have h1 := HeapM.of_some h
  unfold HeapM.of
  rw [if_pos h1.1]
  exact getL_of_mem (G.add o).ok.nk (List.mem_append_left _ (getL_mem h1.2))
theorem dp_mapset {l : List (Int × ObjM)} {n m : Int} (o : ObjM) : getL (l.map fun p => if p.1 = n then (n, o) else p) m = if m = n then (getL l n).map fun _ => o else getL l m := by
  have c : ∀ (q : Int × ObjM) (r : List (Int × ObjM)) (m : Int), getL (q :: r) m = if q.1 = m then some q.2 else getL r m := fun q r m => by by_cases e : q.1 = m <;> simp [getL, e]
  induction l with
  | nil => simp [getL]
  | cons p r ih =>
    rw [List.map_cons, c, ih, c, c]
    by_cases e : p.1 = n
    · rw [if_pos e]
      by_cases hm : m = n
      · subst hm; simp [e]
      · simp [hm, e, Ne.symm hm]
    · rw [if_neg e]
      by_cases hm : m = n
      · subst hm; simp [e]
      · simp [hm]
theorem dp_set {H : HeapM} {v : V} {o : ObjM} (h : H.of v = some o) (o' : ObjM) : (H.set v.n o').of v = some o' := by
  have h1 := HeapM.of_some h
  unfold HeapM.of HeapM.set
  rw [if_pos h1.1]
  simp only
  rw [dp_mapset, if_pos rfl, h1.2]; rfl
theorem dp_else {H : HeapM} {v y : V} (o' : ObjM) (hn : y.n ≠ v.n) : (H.set v.n o').of y = H.of y := by
  unfold HeapM.of HeapM.set
  simp only
  rw [dp_mapset, if_neg hn]
theorem dp_put {H : HeapM} {v : V} {o : ObjM} (h : H.of v = some o) (hp : o.pairs = []) (x : V) : H.put v keyOne x = H.set v.n { o with pairs := [(keyOne, x)] } ∧ H.canPut v keyOne = true := by
  have e : putOk ([] : List (V × V)) keyOne = true := by simp [putOk, getL, V.isKey, keyOne]
  unfold HeapM.put HeapM.canPut
  rw [h]
  simp only [hp, e, if_true, and_true]
  rfl
theorem dp_le {H : HeapM} {N : Nat} (G : H.Good N) {v : V} {o : ObjM} (h : H.of v = some o) : v.n ≤ H.last := (G.ok.pos _ (getL_mem (HeapM.of_some h).2)).2
section
variable {H : HeapM} {x a b : V} {ks : List Nat} {N : Nat}
theorem step_row {k : Nat} (hk : k = 1 ∨ k = 2) (hI : okI k) (F : H.Fit N) (l : Lay2 H x ks a b) {m : Int} (hm : H.last = m) (h1 : okI (m + 1)) (h2 : okI (m + 2)) :
    Lay2 (stepR H k hI a b) x (k :: ks) (V.ref (m + 1) h1) (V.ref (m + 2) h2) ∧ (stepR H k hI a b).Fit (N + 6) ∧ (stepR H k hI a b).last = m + 2 := by
  have F1 := F.add (rowD k hI a) (by show 1 ≤ (k : Int) ∧ (k : Int) ≤ 12; omega) rfl
  have F2 := F1.add (rowD k hI b) (by show 1 ≤ (k : Int) ∧ (k : Int) ≤ 12; omega) rfl
  have old : ∀ v o, H.of v = some o → (stepR H k hI a b).of v = some o := fun v o h => dp_old F1.G _ (dp_old F.G _ h)
  refine ⟨.on (oa := rowD k hI a) (ob := rowD k hI b) ?_ ?_ ⟨rfl, .inl ⟨hk, rfl, rfl⟩⟩ ⟨rfl, .inl ⟨hk, rfl, rfl⟩⟩ (by show m + 1 ≠ m + 2; omega) (l.mono old), F2, ?_⟩
  · exact dp_old F1.G _ (dp_new F.G _ rfl (by show m + 1 = _; rw [hm]))
  · exact dp_new F1.G _ rfl (by show m + 2 = H.last + 1 + 1; omega)
  · show H.last + 1 + 1 = _; omega
theorem step_dict (F : H.Fit N) (l : Lay2 H x ks a b) {m : Int} (hm : H.last = m) (h1 : okI (m + 1)) (h2 : okI (m + 2)) :
    Lay2 (stepD H a b (V.ref (m + 1) h1) (V.ref (m + 2) h2)) x (3 :: ks) (V.ref (m + 1) h1) (V.ref (m + 2) h2) ∧ (stepD H a b (V.ref (m + 1) h1) (V.ref (m + 2) h2)).Fit (N + 6) ∧ (stepD H a b (V.ref (m + 1) h1) (V.ref (m + 2) h2)).last = m + 2 := by
  have F1 := F.add dictE (by decide) rfl
  have F2 := F1.add dictE (by decide) rfl
  have c0 : ((H.add dictE).add dictE).of (V.ref (m + 1) h1) = some dictE := dp_old F1.G _ (dp_new F.G _ rfl (by show m + 1 = _; rw [hm]))
  have d0 : ((H.add dictE).add dictE).of (V.ref (m + 2) h2) = some dictE := dp_new F1.G _ rfl (by show m + 2 = H.last + 1 + 1; omega)
  have e1 := (dp_put c0 rfl a).1
  have d1 : (((H.add dictE).add dictE).put (V.ref (m + 1) h1) keyOne a).of (V.ref (m + 2) h2) = some dictE := by
    rw [e1, dp_else _ (by show m + 2 ≠ m + 1; omega)]; exact d0
  have e2 := (dp_put d1 rfl b).1
  have lst : (stepD H a b (V.ref (m + 1) h1) (V.ref (m + 2) h2)).last = m + 2 := by
    unfold stepD; rw [e2, e1]; show H.last + 1 + 1 = _; omega
  have old : ∀ v o, H.of v = some o → (stepD H a b (V.ref (m + 1) h1) (V.ref (m + 2) h2)).of v = some o := fun v o h => by
    have hle := dp_le F.G h
    unfold stepD
    rw [e2, dp_else _ (by show v.n ≠ m + 2; omega), e1, dp_else _ (by show v.n ≠ m + 1; omega)]
    exact dp_old F1.G _ (dp_old F.G _ h)
  refine ⟨.on (oa := dictD a) (ob := dictD b) ?_ ?_ ⟨rfl, .inr ⟨rfl, rfl, rfl⟩⟩ ⟨rfl, .inr ⟨rfl, rfl, rfl⟩⟩ (by show m + 1 ≠ m + 2; omega) (l.mono old), ((F2.put _ _ _).put _ _ _), lst⟩
  · unfold stepD
    rw [e2, dp_else _ (by show m + 1 ≠ m + 2; omega), e1]
    exact dp_set c0 _
  · unfold stepD
    rw [e2]
    exact dp_set d1 _
/-- The list that holds itself. -/
def ringM (H : HeapM) (v : V) : HeapM := (H.add listE).replace v 0 0 [v]
theorem ring_of (F : H.Fit N) {m : Int} (hm : H.last = m) (h1 : okI (m + 1)) : (ringM H (V.ref (m + 1) h1)).of (V.ref (m + 1) h1) = some (rowD 1 (by decide) (V.ref (m + 1) h1)) ∧ (ringM H (V.ref (m + 1) h1)).Fit (N + 3) := by
  have F1 := F.add listE (by decide) rfl
  have c0 : (H.add listE).of (V.ref (m + 1) h1) = some listE := dp_new F.G _ rfl (by show m + 1 = _; rw [hm])
  refine ⟨?_, F1.replace _ _ _ _⟩
  unfold ringM HeapM.replace
  rw [c0]
  simp only
  rw [if_pos (by decide)]
  exact dp_set c0 _
end
end Go.Proofs.YtellmfimmghidaaGreat
namespace Go.Proofs.YtellmfimmghidaaGreat.operateDeep
set_option linter.unusedSimpArgs false
open Go.ChangeShapes Go.WideShapes Go.ChangeAt Go.RowKit
open Go.ChangeMaps (open_string)
set_option linter.unusedVariables false
attribute [local irreducible] wpSeqS wpAnyS wpPreS
section
variable {w W : World} {Rs : List Res} {h : Nat} {H : HeapM} {N : Nat}
theorem seesV_nl (W : World) : SeesV W (.slice none 0 0) [] := ⟨none, 0, rfl, Nat.le_refl _, by unfold maxLen; omega, .inl rfl⟩
theorem made_row (S : Sep w Rs W) (i : Nat) (hi : Rs[i]? = some (heapR h H)) (F : H.Fit N) (hN : N ≤ 1000) {k m : Int} (hk : okI k) (h1 : 1 ≤ k ∧ k ≤ 12) (hm : H.last = m) (u : V) {q : Nat} {t : TypeId} (hb : W.heap[q]? = some (.cells #[.int .i64 u.kind, .int .i64 u.n, .string u.s] t)) :
    Calls Tryz.prog 22 #[.pointer (some ⟨h, 0, none⟩), .int .i64 k, .string ⟨#[]⟩, .int .i64 0, .slice (some ⟨q, 0, none⟩) 1 1] W fun e W' => e = .returned (.agg #[.int .i64 4, .int .i64 (m + 1), .string ⟨#[]⟩]) ∧ Sep w (Rs.set i (heapR h (H.add (rowD k hk u)))) W' := by
  subst hm
  exact S.make i hi F.G (by omega) (rowD k hk u) _ (seesOneV hb).vals (by show 1 ≤ 4194304; decide) rfl h1.1 h1.2
theorem made_e (S : Sep w Rs W) (i : Nat) (hi : Rs[i]? = some (heapR h H)) (F : H.Fit N) (hN : N ≤ 1000) (o : ObjM) (hs : o.items = []) (hp : o.pairs = []) (h1 : 1 ≤ o.kind ∧ o.kind ≤ 12) {m : Int} (hm : H.last = m) (nm : ByteArray) (hnm : o.name = nm) (nn : Int) (hnn : o.num = nn) (k : Int) (hk : o.kind = k) :
    Calls Tryz.prog 22 #[.pointer (some ⟨h, 0, none⟩), .int .i64 k, .string nm, .int .i64 nn, .slice none 0 0] W fun e W' => e = .returned (.agg #[.int .i64 4, .int .i64 (m + 1), .string ⟨#[]⟩]) ∧ Sep w (Rs.set i (heapR h (H.add o))) W' := by
  subst hm hnm hnn hk
  exact S.make i hi F.G (by omega) o (.slice none 0 0) (by rw [hs]; exact seesV_nl _) (by rw [hs]; decide) hp h1.1 h1.2
theorem repr_deep (S : Sep w Rs W) (i : Nat) (hi : Rs[i]? = some (heapR h H)) (F : H.Fit N) (hN : N ≤ 1000) {x : V} (hx : x.kind = 2 ∧ x.s.size ≤ 100000) (v : V) (hv : InLay H x v) (r : TelM) (hr : H.reprM v = r) :
    Calls Tryz.prog 25 #[.pointer (some ⟨h, 0, none⟩), .agg #[.int .i64 v.kind, .int .i64 v.n, .string v.s]] W fun e W' => e = .returned (reprV r) ∧ Sep w Rs W' := by
  subst hr
  exact repr_ok F.G (by omega) (plainAt (P := InLay H x) (fun y hy hw => hy.plain hx hw)) (fun y z hy hz => hy.items hx.1 hz) (fun y p hy hp => hy.pairs hx.1 hp) S i hi v hv
theorem repr_ring (S : Sep w Rs W) (i : Nat) (hi : Rs[i]? = some (heapR h H)) (F : H.Fit N) (hN : N ≤ 1000) (v : V) {o : ObjM} (ho : H.of v = some o) (hk : o.kind = 1) (hit : o.items = [v]) (hp : o.pairs = []) :
    Calls Tryz.prog 25 #[.pointer (some ⟨h, 0, none⟩), .agg #[.int .i64 v.kind, .int .i64 v.n, .string v.s]] W fun e W' => e = .returned (.tuple #[.string ⟨#[]⟩, excN recursionError]) ∧ Sep w Rs W' := by
  have hw : H.wholeB v = true := by unfold HeapM.wholeB HeapM.rowB; rw [kind_of_some ho, hk]; decide
  have hd := tell_ring ho hk hit 30 (t := ⟨[], .no⟩) rfl (by decide)
  have hh := repr_ok F.G (show N ≤ 4000000 by omega) (plainAt (P := fun y => y = v) (w := w) (h := h) (H := H) (fun y hy hz => by subst hy; rw [hw] at hz; cases hz)) (fun y z hy hz => by subst hy; rw [items_of_some ho, hit] at hz; simpa using hz) (fun y p hy hq => by subst hy; rw [pairs_of_some ho, hp] at hq; cases hq) S i hi v rfl
  have e : reprV (H.reprM v) = .tuple #[.string ⟨#[]⟩, excN recursionError] := by
    unfold reprV HeapM.reprM
    rw [hd]; rfl
  rwa [e] at hh
end
theorem textK_le {ks : List Nat} : textK ks ≤ 5 * ks.length := by
  induction ks with
  | nil => simp [textK]
  | cons k ks ih => unfold textK; rw [List.length_cons]; split <;> (try split) <;> omega
/-- The numbers' text is short. -/
theorem num_short (H : HeapM) (x : V) (hk : x.kind = 2) : (H.plainL x).length ≤ 100 := by
  unfold HeapM.plainL
  rw [if_neg (by omega), if_neg (by omega), if_pos hk]
  obtain ⟨h1, h2⟩ := okI_range x.hn
  have := digitsU_len 18 x.n.natAbs (by omega)
  unfold textN
  rw [List.length_append]
  split <;> (simp only [List.length_cons, List.length_nil]; omega)
def nmD (r : Option Bool) : ByteArray := match r with | some _ => ⟨#[]⟩ | none => recursionError
set_option maxRecDepth 100000 in
set_option maxHeartbeats 12800000 in
theorem walk (w : World) (n : Int) (hn : (Lit.int .u8 n).wf = true) (sl : Value) (l : List Nat) (hs : SeesB w sl l) (x0 : V) :
    Calls Tryz.prog 9 #[.int .u8 n, sl, .agg #[.int .i64 x0.kind, .int .i64 x0.n, .string x0.s]] w fun e W' => e = .returned (.bool true) ∧ Below w.heap.size w W' := by
  obtain ⟨ba, bc, rfl, q1, q2, q3⟩ := hs
  have HQ := Lib.hid (And.intro q1 (And.intro q2 q3))
  have hll : (l.length : Int) ≤ 9223372036854775807 := by unfold maxLen at q1; omega
  clear q1 q2 q3
  obtain ⟨m, hm, hm60⟩ := rest_of (n := 60) (byte_range hn).1 (by decide)
  replace hm : n.tmod 60 = (m : Int) := hm
  obtain ⟨x, hx⟩ : ∃ x, x = vI x0.n x0.hn := ⟨_, rfl⟩
  have hxk : x.kind = 2 := by rw [hx]; rfl
  have hxn : x0.n = x.n := by rw [hx]; rfl
  have hxs : x.s = ⟨#[]⟩ := by rw [hx]; rfl
  have HX := Lib.hid (And.intro hxk (And.intro hxn hxs))
  have HXF : Hid (x.kind = 2 ∧ x.s.size ≤ 100000) := Lib.hid ⟨hxk, by rw [hxs]; decide⟩
  have hw1 : IntKind.i64.wrap (m : Int) = (m : Int) := IntWalk.i64_in _ (by omega)
  obtain ⟨many, hmany⟩ : ∃ k : Nat, k = 1 + m := ⟨_, rfl⟩
  have HMN : Hid (many ≤ 60 ∧ 1 ≤ many) := Lib.hid (by omega)
  have hmi : 1 + (m : Int) = (many : Int) := by omega
  have hcw : IntKind.i64.wrap (many : Int) = (many : Int) := IntWalk.i64_in _ (by omega)
  have S := Sep.start (Below.refl w.heap.size w)
  obtain ⟨q3, hq3⟩ : ∃ gx_, (w.heap.size) = gx_ := ⟨_, rfl⟩
  replace S := S.alloc (.cells #[.int .i64 x0.kind, .int .i64 x0.n, .string x0.s] 29)
  rw [hq3] at S ⊢
  have M0 := Lib.hid (shown_ok S)
  have HMI := Lib.hid hmi
  have HHM := Lib.hid hm
  clear S hn hm60 hx hxk hxn hxs hmany hmi hm
  go_enter Tryz.func9, Tryz.ntmps9
  go_upto_region 1 with fail
  try simp only [hq3]
  have HQ3 := Lib.hid hq3
  clear hq3
  go_wp2_with fail
  refine M0.out.mono ?_
  rintro e w1 ⟨rfl, S⟩
  clear M0
  have M := Lib.hid S.new
  clear S
  go_wp2_with fail
  refine M.out.mono ?_
  rintro e w2 ⟨h, rfl, S, -⟩
  clear M
  replace S : Sep w (heapR h ⟨[], 0⟩ :: boxV q3 x0 :: []) _ := S
  have hmi := HMI.out
  have hm := HHM.out
  refine named (heapR h ⟨[], 0⟩ :: boxV q3 x0 :: [] : List Res) fun b5_2 hb5_2 => ?_
  have Hb5_2 := Lib.hid hb5_2
  have Kb5_2 : Hid (∀ W (Q : List Res), Sep w (Q ++ b5_2) W → True) := Lib.hid fun W Q T => by
    rw [hb5_2] at T
    trivial
  replace S := Lib.hid S
  clear hb5_2
  go_upto_region 5 with fail
  have S1 : Sep w ([] ++ b5_2) (w2) := by rw [Hb5_2.out]; exact S.out
  clear S
  refine regionL (E := []) (base := b5_2) S1 ?_
  clear S1
  iterate 5 (refine quietL ?_; simp only [Act.put, pa]; try dsimp only [List.set])
  refine doneL (h := fun w4 S => ?_)
  replace S : Sep w (heapR h ⟨[], 0⟩ :: boxV q3 x0 :: []) w4 := by rw [Hb5_2.out] at S; exact S
  clear Hb5_2 Kb5_2
  clear hmi hm hcw hw1
  refine named (heapR h ⟨[], 0⟩ :: boxV q3 x0 :: [] : List Res) fun b6_4 hb6_4 => ?_
  have Hb6_4 := Lib.hid hb6_4
  have Kb6_4 : Hid (∀ W (Q : List Res), Sep w (Q ++ b6_4) W → True) := Lib.hid fun W Q T => by
    rw [hb6_4] at T
    trivial
  have Cb6_4_0 := baseC3 (w := w) (b := q3) hb6_4 1 rfl
  have K6_2 : KC w b6_4 16 #[.int .i64 x0.n] (.agg #[.int .i64 x.kind, .int .i64 x.n, .string x.s]) := Lib.hid fun W Q T => by
    rw [Hb6_4.out] at T ⊢
    exact (by have hh := lnum_ok W x0.n; have e1 := HX.out.1; have e2 := HX.out.2.1; have e3 := HX.out.2.2; rw [e1, ← e2, e3]; exact hh.mono fun e W' ⟨e1, e2⟩ => ⟨e1, T.later e2⟩)
  replace S := Lib.hid S
  clear hb6_4
  go_upto_region 6 with fail
  have S1 : Sep w ([] ++ b6_4) (w4) := by rw [Hb6_4.out]; exact S.out
  clear S
  refine regionL (E := [emptyR]) (base := b6_4) (Sep.putE S1) ?_
  clear S1
  refine quietL ?_
  simp only [Act.put, pa]; try dsimp only [List.set]
  refine quietLC Cb6_4_0 ?_
  simp only [Act.put, pa]; try dsimp only [List.set]
  refine quietLK K6_2 ?_
  simp only [Act.put, pa]; try dsimp only [List.set]
  refine allocL 0 rfl (fun q => .pointer (some ⟨q, 0, none⟩)) (.cells #[.int .i64 0, .int .i64 0, .string ⟨#[]⟩] 29) (h1 := fun Wx => by go_simp) (h2 := fun qva1 => ?_)
  simp only [Act.put, pa]; try dsimp only [List.set]
  try simp only [List.set_cons_zero, List.set_cons_succ]
  refine detL undef [boxV qva1 x] (h1 := fun Wx hSw => by (have hz := hSw.box (b := qva1) (o := objZ) 0 rfl; refine useZ3 hz fun z0 z1 z2 y0 y1 y2 => ?_; go_simp; exact ⟨rfl, hSw.set3 0 rfl (.int .i64 x.kind) (.int .i64 x.n) (.string x.s)⟩)) (h2 := ?_)
  simp only [Act.put, pa]; try dsimp only [List.set]
  refine doneL (h := fun w6 S => ?_)
  replace S : Sep w (boxV qva1 x :: heapR h ⟨[], 0⟩ :: boxV q3 x0 :: []) w6 := by rw [Hb6_4.out] at S; exact S
  clear Hb6_4 Kb6_4 K6_2 Cb6_4_0
  refine named (boxV qva1 x :: heapR h ⟨[], 0⟩ :: boxV q3 x0 :: [] : List Res) fun b7_6 hb7_6 => ?_
  have Hb7_6 := Lib.hid hb7_6
  have Kb7_6 : Hid (∀ W (Q : List Res), Sep w (Q ++ b7_6) W → True) := Lib.hid fun W Q T => by
    rw [hb7_6] at T
    trivial
  have Cb7_6_0 := baseC3 (w := w) (b := q3) hb7_6 2 rfl
  have K7_2 : KC w b7_6 16 #[.int .i64 x0.n] (.agg #[.int .i64 x.kind, .int .i64 x.n, .string x.s]) := Lib.hid fun W Q T => by
    rw [Hb7_6.out] at T ⊢
    exact (by have hh := lnum_ok W x0.n; have e1 := HX.out.1; have e2 := HX.out.2.1; have e3 := HX.out.2.2; rw [e1, ← e2, e3]; exact hh.mono fun e W' ⟨e1, e2⟩ => ⟨e1, T.later e2⟩)
  replace S := Lib.hid S
  clear hb7_6
  go_upto_region 7 with fail
  have S1 : Sep w ([] ++ b7_6) (w6) := by rw [Hb7_6.out]; exact S.out
  clear S
  refine regionL (E := [emptyR]) (base := b7_6) (Sep.putE S1) ?_
  clear S1
  refine quietL ?_
  simp only [Act.put, pa]; try dsimp only [List.set]
  refine quietLC Cb7_6_0 ?_
  simp only [Act.put, pa]; try dsimp only [List.set]
  refine quietLK K7_2 ?_
  simp only [Act.put, pa]; try dsimp only [List.set]
  refine allocL 0 rfl (fun q => .pointer (some ⟨q, 0, none⟩)) (.cells #[.int .i64 0, .int .i64 0, .string ⟨#[]⟩] 29) (h1 := fun Wx => by go_simp) (h2 := fun qvb1 => ?_)
  simp only [Act.put, pa]; try dsimp only [List.set]
  try simp only [List.set_cons_zero, List.set_cons_succ]
  refine detL undef [boxV qvb1 x] (h1 := fun Wx hSw => by (have hz := hSw.box (b := qvb1) (o := objZ) 0 rfl; refine useZ3 hz fun z0 z1 z2 y0 y1 y2 => ?_; go_simp; exact ⟨rfl, hSw.set3 0 rfl (.int .i64 x.kind) (.int .i64 x.n) (.string x.s)⟩)) (h2 := ?_)
  simp only [Act.put, pa]; try dsimp only [List.set]
  refine doneL (h := fun w8 S => ?_)
  replace S : Sep w (boxV qvb1 x :: boxV qva1 x :: heapR h ⟨[], 0⟩ :: boxV q3 x0 :: []) w8 := by rw [Hb7_6.out] at S; exact S
  clear Hb7_6 Kb7_6 K7_2 Cb7_6_0
  replace S : Sep w ([heapR h ⟨[], 0⟩, boxV qva1 x, boxV qvb1 x, boxV q3 x0] ++ []) (w8) := by
    refine (show Sep w ([boxV qvb1 x, boxV qva1 x, heapR h ⟨[], 0⟩, boxV q3 x0] ++ []) _ from S).perm ?_
    exact List.Perm.append_right [] (perm_of (l := [boxV qvb1 x, boxV qva1 x, heapR h ⟨[], 0⟩, boxV q3 x0]) [2, 1, 0, 3] (by show (List.range' 0 4).Perm [2, 1, 0, 3]; decide) (by rfl))
  replace S := Lib.hid S
  go_wp2
  go_loopw [12, 13] (fun s12 s13 wr => ∃ (i : Nat) (ks : List Nat) (H : HeapM) (a b : V), i ≤ many ∧ Hid (ks.length = i ∧ Lay2 H x ks a b ∧ H.Fit (6 * i) ∧ H.last = 2 * i) ∧ s12 = .int .i64 (textK ks) ∧ s13 = .int .i64 i ∧ Sep w (heapR h H :: boxV qva1 a :: boxV qvb1 b :: boxV q3 x0 :: []) wr) (fun _ s13 _ => many - (intOf s13).toNat)
  case atStart => exact ⟨0, [], ⟨[], 0⟩, x, x, Nat.zero_le _, Lib.hid ⟨rfl, .leaf, fit_empty, rfl⟩, rfl, rfl, S.out⟩
  case round =>
    obtain ⟨i, ks, H, a, b, hi, HL, rfl, rfl, S⟩ := hrel
    by_cases hlt : i < many
    ·
      have hlti : (i : Int) < many := by omega
      have HLT := Lib.hid hlt
      clear hlt hi
      obtain ⟨tx, htx⟩ : ∃ t : Nat, t = textK ks := ⟨_, rfl⟩
      have HTX := Lib.hid htx
      rw [← htx]
      clear htx
      obtain ⟨m2, hm2⟩ : ∃ z : Int, z = 2 * (i : Int) := ⟨_, rfl⟩
      have HLm : Hid (H.last = m2) := Lib.hid (by rw [hm2]; exact HL.out.2.2.2)
      have HOK : Hid (okI (m2 + 1) ∧ okI (m2 + 2) ∧ m2 + 1 + 1 = m2 + 2) := Lib.hid ⟨okI_of (by have := HLT.out; have := HMN.out; omega), okI_of (by have := HLT.out; have := HMN.out; omega), by omega⟩
      have HM2 := Lib.hid hm2
      clear hm2
      have HN : Hid (6 * i + 6 ≤ 1000) := Lib.hid (by have := HLT.out; have := HMN.out; omega)
      have hi1 : IntKind.i64.wrap ((i : Int) + 1) = (i : Int) + 1 := IntWalk.i64_in _ (by have := HLT.out; have := HMN.out; omega)
      have HTB : Hid (tx ≤ 300) := Lib.hid (by have h1 := HTX.out; have h2 := @textK_le ks; have := HL.out.1; have := HLT.out; have := HMN.out; omega)
      by_cases hb : i < l.length
      ·
        have hbi : (i : Int) < l.length := by omega
        obtain ⟨bt, hbt⟩ : ∃ z, l[i]? = some z := ⟨l[i], by simp [hb]⟩
        obtain ⟨g, og, rfl, hc⟩ : ∃ g og, ba = some ⟨g, og, none⟩ ∧ ∀ (i b : Nat), l[i]? = some b → w.cell? ⟨g, og + i, none⟩ = some (.int .u8 (b : Int)) := by
          rcases HQ.out.2.2 with e | e
          · subst e; simp at hb
          · exact e
        have HC := Lib.hid (hc i bt hbt)
        obtain ⟨kk, hkk, hk3⟩ := rest_of (t := (bt : Int)) (n := 3) (by omega) (by decide)
        replace hkk : (bt : Int).tmod 3 = (kk : Int) := hkk
        have HK3 := Lib.hid hk3
        clear hc hbt hb hk3
        refine named (heapR h H :: boxV qva1 a :: boxV qvb1 b :: boxV q3 x0 :: [] : List Res) fun b13_20 hb13_20 => ?_
        have Hb13_20 := Lib.hid hb13_20
        have Kb13_20 : Hid (∀ W (Q : List Res), Sep w (Q ++ b13_20) W → True) := Lib.hid fun W Q T => by
          rw [hb13_20] at T
          trivial
        replace S := Lib.hid S
        clear hb13_20
        go_upto_region 13 with fail
        have S1 : Sep w ([] ++ b13_20) (wr) := by rw [Hb13_20.out]; exact S.out
        clear S
        refine regionL (E := []) (base := b13_20) S1 ?_
        clear S1
        iterate 4 (refine quietL ?_; simp only [Act.put, pa]; try dsimp only [List.set])
        refine doneL (h := fun w22 S => ?_)
        replace S : Sep w (heapR h H :: boxV qva1 a :: boxV qvb1 b :: boxV q3 x0 :: []) w22 := by rw [Hb13_20.out] at S; exact S
        clear Hb13_20 Kb13_20
        refine named (heapR h H :: boxV qva1 a :: boxV qvb1 b :: boxV q3 x0 :: [] : List Res) fun b14_22 hb14_22 => ?_
        have Hb14_22 := Lib.hid hb14_22
        have Kb14_22 : Hid (∀ W (Q : List Res), Sep w (Q ++ b14_22) W → True) := Lib.hid fun W Q T => by
          rw [hb14_22] at T
          trivial
        have B0 : Hid (∀ W (Q : List Res), Sep w (Q ++ b14_22) W → W.cell? ⟨g, og + i, none⟩ = some (.int .u8 (bt : Int))) := Lib.hid fun W Q T => cellBelow HC.out T.below
        replace S := Lib.hid S
        clear hb14_22
        go_upto_region 14 with fail
        have S1 : Sep w ([] ++ b14_22) (w22) := by rw [Hb14_22.out]; exact S.out
        clear S
        refine regionL (E := []) (base := b14_22) S1 ?_
        clear S1
        iterate 3 (refine quietL ?_; simp only [Act.put, pa]; try dsimp only [List.set])
        refine quietLC B0 ?_
        simp only [Act.put, pa]; try dsimp only [List.set]
        iterate 2 (refine quietL ?_; simp only [Act.put, pa]; try dsimp only [List.set])
        refine doneL (h := fun w24 S => ?_)
        replace S : Sep w (heapR h H :: boxV qva1 a :: boxV qvb1 b :: boxV q3 x0 :: []) w24 := by rw [Hb14_22.out] at S; exact S
        clear Hb14_22 Kb14_22 B0
        clear hbi hkk
        have hk3 := HK3.out
        rcases (show kk = 0 ∨ kk = 1 ∨ kk = 2 by omega) with hkk | hkk | hkk
        ·
          subst hkk
          clear hk3
          have htw : IntKind.i64.wrap ((tx : Int) + 2) = ((tx + 2 : Nat) : Int) := by rw [show ((tx : Int) + 2) = ((tx + 2 : Nat) : Int) by omega]; exact IntWalk.i64_in _ (by have := HTB.out; omega)
          refine named (heapR h H :: boxV qva1 a :: boxV qvb1 b :: boxV q3 x0 :: [] : List Res) fun b23_100 hb23_100 => ?_
          have Hb23_100 := Lib.hid hb23_100
          have Kb23_100 : Hid (∀ W (Q : List Res), Sep w (Q ++ b23_100) W → True) := Lib.hid fun W Q T => by
            rw [hb23_100] at T
            trivial
          replace S := Lib.hid S
          clear hb23_100
          go_upto_region 23 with fail
          have S1 : Sep w ([] ++ b23_100) (w24) := by rw [Hb23_100.out]; exact S.out
          clear S
          refine regionL (E := []) (base := b23_100) S1 ?_
          clear S1
          iterate 2 (refine quietL ?_; simp only [Act.put, pa]; try dsimp only [List.set])
          refine doneL (h := fun w102 S => ?_)
          replace S : Sep w (heapR h H :: boxV qva1 a :: boxV qvb1 b :: boxV q3 x0 :: []) w102 := by rw [Hb23_100.out] at S; exact S
          clear Hb23_100 Kb23_100
          replace S : Sep w (heapR h H :: boxV qva1 a :: boxV qvb1 b :: boxV q3 x0 :: []) (w102) := by
            refine (show Sep w ([heapR h H, boxV qva1 a, boxV qvb1 b, boxV q3 x0] ++ []) _ from S).perm ?_
            exact List.Perm.append_right [] (perm_of (l := [heapR h H, boxV qva1 a, boxV qvb1 b, boxV q3 x0]) [0, 1, 2, 3] (by show (List.range' 0 4).Perm [0, 1, 2, 3]; decide) (by rfl))
          refine named (boxV qvb1 b :: boxV q3 x0 :: [] : List Res) fun b24_102 hb24_102 => ?_
          have Hb24_102 := Lib.hid hb24_102
          have Kb24_102 : Hid (∀ W (Q : List Res), Sep w (Q ++ b24_102) W → True) := Lib.hid fun W Q T => by
            rw [hb24_102] at T
            trivial
          replace S := Lib.hid S
          clear hb24_102
          go_upto_region 24 with fail
          have S1 : Sep w ([heapR h H, boxV qva1 a] ++ b24_102) (w102) := by rw [Hb24_102.out]; exact S.out
          clear S
          refine regionL (E := [emptyR, heapR h H, boxV qva1 a]) (base := b24_102) (Sep.putE S1) ?_
          clear S1
          refine quietL ?_
          simp only [Act.put, pa]; try dsimp only [List.set]
          refine detL _ [emptyR, heapR h H, boxV qva1 a] (h1 := fun Wx hSw => by (have hz := hSw.box (b := qva1) (o := objV a) 2 rfl; have z0 := cellAt hz 0 (v := .int .i64 a.kind) rfl; have z1 := cellAt hz 1 (v := .int .i64 a.n) rfl; have z2 := cellAt hz 2 (v := .string a.s) rfl; go_simp; exact ⟨rfl, hSw⟩)) (h2 := ?_)
          simp only [Act.put, pa]; try dsimp only [List.set]
          refine allocL 0 rfl (fun q => .slice (some ⟨q, 0, none⟩) 1 1) (.cells #[.int .i64 a.kind, .int .i64 a.n, .string a.s] 29) (h1 := fun Wx => by go_simp) (h2 := fun qRA2 => ?_)
          simp only [Act.put, pa]; try dsimp only [List.set]
          try simp only [List.set_cons_zero, List.set_cons_succ]
          refine detL (.agg #[.int .i64 4, .int .i64 (m2 + 1), .string ⟨#[]⟩]) [boxV qRA2 a, heapR h (H.add (rowD 1 (by decide) a)), boxV qva1 a] (h1 := fun Wx hSw => by (go_simp; refine symCall ?_; exact made_row hSw 1 rfl HL.out.2.2.1 (by have := HN.out; omega) (by decide) (by decide) HLm.out a (hSw.box (b := qRA2) 0 rfl))) (h2 := ?_)
          simp only [Act.put, pa]; try dsimp only [List.set]
          refine detL undef [boxV qRA2 a, heapR h (H.add (rowD 1 (by decide) a)), boxW qva1 4 (m2 + 1) ⟨#[]⟩] (h1 := fun Wx hSw => by (have hz := hSw.box (b := qva1) (o := objV a) 2 rfl; refine useZ3 hz fun z0 z1 z2 y0 y1 y2 => ?_; go_simp; exact ⟨rfl, hSw.set3 2 rfl (.int .i64 4) (.int .i64 (m2 + 1)) (.string ⟨#[]⟩)⟩)) (h2 := ?_)
          simp only [Act.put, pa]; try dsimp only [List.set]
          refine doneL (h := fun w104 S => ?_)
          replace S : Sep w (boxV qRA2 a :: heapR h (H.add (rowD 1 (by decide) a)) :: boxW qva1 4 (m2 + 1) ⟨#[]⟩ :: boxV qvb1 b :: boxV q3 x0 :: []) w104 := by rw [Hb24_102.out] at S; exact S
          clear Hb24_102 Kb24_102
          replace S : Sep w (heapR h (H.add (rowD 1 (by decide) a)) :: boxV qvb1 b :: boxV qRA2 a :: boxW qva1 4 (m2 + 1) ⟨#[]⟩ :: boxV q3 x0 :: []) (w104) := by
            refine (show Sep w ([boxV qRA2 a, heapR h (H.add (rowD 1 (by decide) a)), boxW qva1 4 (m2 + 1) ⟨#[]⟩, boxV qvb1 b, boxV q3 x0] ++ []) _ from S).perm ?_
            exact List.Perm.append_right [] (perm_of (l := [boxV qRA2 a, heapR h (H.add (rowD 1 (by decide) a)), boxW qva1 4 (m2 + 1) ⟨#[]⟩, boxV qvb1 b, boxV q3 x0]) [1, 3, 0, 2, 4] (by show (List.range' 0 5).Perm [1, 3, 0, 2, 4]; decide) (by rfl))
          refine named (boxV qRA2 a :: boxW qva1 4 (m2 + 1) ⟨#[]⟩ :: boxV q3 x0 :: [] : List Res) fun b25_104 hb25_104 => ?_
          have Hb25_104 := Lib.hid hb25_104
          have Kb25_104 : Hid (∀ W (Q : List Res), Sep w (Q ++ b25_104) W → True) := Lib.hid fun W Q T => by
            rw [hb25_104] at T
            trivial
          replace S := Lib.hid S
          clear hb25_104
          go_upto_region 25 with fail
          have S1 : Sep w ([heapR h (H.add (rowD 1 (by decide) a)), boxV qvb1 b] ++ b25_104) (w104) := by rw [Hb25_104.out]; exact S.out
          clear S
          refine regionL (E := [emptyR, heapR h (H.add (rowD 1 (by decide) a)), boxV qvb1 b]) (base := b25_104) (Sep.putE S1) ?_
          clear S1
          refine quietL ?_
          simp only [Act.put, pa]; try dsimp only [List.set]
          refine detL _ [emptyR, heapR h (H.add (rowD 1 (by decide) a)), boxV qvb1 b] (h1 := fun Wx hSw => by (have hz := hSw.box (b := qvb1) (o := objV b) 2 rfl; have z0 := cellAt hz 0 (v := .int .i64 b.kind) rfl; have z1 := cellAt hz 1 (v := .int .i64 b.n) rfl; have z2 := cellAt hz 2 (v := .string b.s) rfl; go_simp; exact ⟨rfl, hSw⟩)) (h2 := ?_)
          simp only [Act.put, pa]; try dsimp only [List.set]
          refine allocL 0 rfl (fun q => .slice (some ⟨q, 0, none⟩) 1 1) (.cells #[.int .i64 b.kind, .int .i64 b.n, .string b.s] 29) (h1 := fun Wx => by go_simp) (h2 := fun qRB2 => ?_)
          simp only [Act.put, pa]; try dsimp only [List.set]
          try simp only [List.set_cons_zero, List.set_cons_succ]
          refine detL (.agg #[.int .i64 4, .int .i64 (m2 + 2), .string ⟨#[]⟩]) [boxV qRB2 b, heapR h (stepR H 1 (by decide) a b), boxV qvb1 b] (h1 := fun Wx hSw => by (go_simp; refine symCall ?_; have hh := made_row hSw 1 rfl (HL.out.2.2.1.add (rowD 1 (by decide) a) (show (1 : Int) ≤ 1 ∧ (1 : Int) ≤ 12 by decide) rfl) (by have := HN.out; show 6 * i + 1 + 2 ≤ 1000; omega) (k := 1) (by decide) (by decide) (m := m2 + 1) (by show H.last + 1 = _; rw [HLm.out]) b (hSw.box (b := qRB2) 0 rfl); rw [HOK.out.2.2] at hh; exact hh)) (h2 := ?_)
          simp only [Act.put, pa]; try dsimp only [List.set]
          refine detL undef [boxV qRB2 b, heapR h (stepR H 1 (by decide) a b), boxW qvb1 4 (m2 + 2) ⟨#[]⟩] (h1 := fun Wx hSw => by (have hz := hSw.box (b := qvb1) (o := objV b) 2 rfl; refine useZ3 hz fun z0 z1 z2 y0 y1 y2 => ?_; go_simp; exact ⟨rfl, hSw.set3 2 rfl (.int .i64 4) (.int .i64 (m2 + 2)) (.string ⟨#[]⟩)⟩)) (h2 := ?_)
          simp only [Act.put, pa]; try dsimp only [List.set]
          refine doneL (h := fun w106 S => ?_)
          replace S : Sep w (boxV qRB2 b :: heapR h (stepR H 1 (by decide) a b) :: boxW qvb1 4 (m2 + 2) ⟨#[]⟩ :: boxV qRA2 a :: boxW qva1 4 (m2 + 1) ⟨#[]⟩ :: boxV q3 x0 :: []) w106 := by rw [Hb25_104.out] at S; exact S
          clear Hb25_104 Kb25_104
          refine named (boxV qRB2 b :: heapR h (stepR H 1 (by decide) a b) :: boxW qvb1 4 (m2 + 2) ⟨#[]⟩ :: boxV qRA2 a :: boxW qva1 4 (m2 + 1) ⟨#[]⟩ :: boxV q3 x0 :: [] : List Res) fun b26_106 hb26_106 => ?_
          have Hb26_106 := Lib.hid hb26_106
          have Kb26_106 : Hid (∀ W (Q : List Res), Sep w (Q ++ b26_106) W → True) := Lib.hid fun W Q T => by
            rw [hb26_106] at T
            trivial
          replace S := Lib.hid S
          clear hb26_106
          go_upto_region 26 with fail
          have S1 : Sep w ([] ++ b26_106) (w106) := by rw [Hb26_106.out]; exact S.out
          clear S
          refine regionL (E := []) (base := b26_106) S1 ?_
          clear S1
          iterate 3 (refine quietL ?_; simp only [Act.put, pa]; try dsimp only [List.set])
          refine doneL (h := fun w108 S => ?_)
          replace S : Sep w (boxV qRB2 b :: heapR h (stepR H 1 (by decide) a b) :: boxW qvb1 4 (m2 + 2) ⟨#[]⟩ :: boxV qRA2 a :: boxW qva1 4 (m2 + 1) ⟨#[]⟩ :: boxV q3 x0 :: []) w108 := by rw [Hb26_106.out] at S; exact S
          clear Hb26_106 Kb26_106
          replace S : Sep w ([boxV qRB2 b, boxV qRA2 a, heapR h (stepR H 1 (by decide) a b), boxW qva1 4 (m2 + 1) ⟨#[]⟩, boxW qvb1 4 (m2 + 2) ⟨#[]⟩, boxV q3 x0] ++ []) (w108) := by
            refine (show Sep w ([boxV qRB2 b, heapR h (stepR H 1 (by decide) a b), boxW qvb1 4 (m2 + 2) ⟨#[]⟩, boxV qRA2 a, boxW qva1 4 (m2 + 1) ⟨#[]⟩, boxV q3 x0] ++ []) _ from S).perm ?_
            exact List.Perm.append_right [] (perm_of (l := [boxV qRB2 b, heapR h (stepR H 1 (by decide) a b), boxW qvb1 4 (m2 + 2) ⟨#[]⟩, boxV qRA2 a, boxW qva1 4 (m2 + 1) ⟨#[]⟩, boxV q3 x0]) [0, 3, 1, 4, 2, 5] (by show (List.range' 0 6).Perm [0, 3, 1, 4, 2, 5]; decide) (by rfl))
          iterate 2 replace S := S.tail
          replace S : Sep w (heapR h (stepR H 1 (by decide) a b) :: boxW qva1 4 (m2 + 1) ⟨#[]⟩ :: boxW qvb1 4 (m2 + 2) ⟨#[]⟩ :: boxV q3 x0 :: []) (w108) := S
          obtain ⟨l1, l2, l3⟩ := step_row (k := 1) (by omega) (by decide) HL.out.2.2.1 HL.out.2.1 HLm.out HOK.out.1 HOK.out.2.1
          replace S := Lib.hid S
          go_wp2
          exact ⟨⟨i + 1, 1 :: ks, (stepR H 1 (by decide) a b), V.ref (m2 + 1) HOK.out.1, V.ref (m2 + 2) HOK.out.2.1, HLT.out, Lib.hid ⟨by rw [List.length_cons, HL.out.1], l1, l2.more (by omega), by refine Eq.trans l3 ?_; rw [HM2.out]; omega⟩, by rw [show textK (1 :: ks) = 2 + textK ks from rfl, ← HTX.out]; congr 1; omega, by go_num, S.out⟩, by have := HLT.out; simp [intOf]; omega⟩
        ·
          subst hkk
          clear hk3
          have htw : IntKind.i64.wrap ((tx : Int) + 3) = ((tx + 3 : Nat) : Int) := by rw [show ((tx : Int) + 3) = ((tx + 3 : Nat) : Int) by omega]; exact IntWalk.i64_in _ (by have := HTB.out; omega)
          refine named (heapR h H :: boxV qva1 a :: boxV qvb1 b :: boxV q3 x0 :: [] : List Res) fun b23_200 hb23_200 => ?_
          have Hb23_200 := Lib.hid hb23_200
          have Kb23_200 : Hid (∀ W (Q : List Res), Sep w (Q ++ b23_200) W → True) := Lib.hid fun W Q T => by
            rw [hb23_200] at T
            trivial
          replace S := Lib.hid S
          clear hb23_200
          go_upto_region 23 with fail
          have S1 : Sep w ([] ++ b23_200) (w24) := by rw [Hb23_200.out]; exact S.out
          clear S
          refine regionL (E := []) (base := b23_200) S1 ?_
          clear S1
          iterate 2 (refine quietL ?_; simp only [Act.put, pa]; try dsimp only [List.set])
          refine doneL (h := fun w202 S => ?_)
          replace S : Sep w (heapR h H :: boxV qva1 a :: boxV qvb1 b :: boxV q3 x0 :: []) w202 := by rw [Hb23_200.out] at S; exact S
          clear Hb23_200 Kb23_200
          refine named (heapR h H :: boxV qva1 a :: boxV qvb1 b :: boxV q3 x0 :: [] : List Res) fun b27_202 hb27_202 => ?_
          have Hb27_202 := Lib.hid hb27_202
          have Kb27_202 : Hid (∀ W (Q : List Res), Sep w (Q ++ b27_202) W → True) := Lib.hid fun W Q T => by
            rw [hb27_202] at T
            trivial
          replace S := Lib.hid S
          clear hb27_202
          go_upto_region 27 with fail
          have S1 : Sep w ([] ++ b27_202) (w202) := by rw [Hb27_202.out]; exact S.out
          clear S
          refine regionL (E := []) (base := b27_202) S1 ?_
          clear S1
          iterate 2 (refine quietL ?_; simp only [Act.put, pa]; try dsimp only [List.set])
          refine doneL (h := fun w204 S => ?_)
          replace S : Sep w (heapR h H :: boxV qva1 a :: boxV qvb1 b :: boxV q3 x0 :: []) w204 := by rw [Hb27_202.out] at S; exact S
          clear Hb27_202 Kb27_202
          replace S : Sep w (heapR h H :: boxV qva1 a :: boxV qvb1 b :: boxV q3 x0 :: []) (w204) := by
            refine (show Sep w ([heapR h H, boxV qva1 a, boxV qvb1 b, boxV q3 x0] ++ []) _ from S).perm ?_
            exact List.Perm.append_right [] (perm_of (l := [heapR h H, boxV qva1 a, boxV qvb1 b, boxV q3 x0]) [0, 1, 2, 3] (by show (List.range' 0 4).Perm [0, 1, 2, 3]; decide) (by rfl))
          refine named (boxV qvb1 b :: boxV q3 x0 :: [] : List Res) fun b28_204 hb28_204 => ?_
          have Hb28_204 := Lib.hid hb28_204
          have Kb28_204 : Hid (∀ W (Q : List Res), Sep w (Q ++ b28_204) W → True) := Lib.hid fun W Q T => by
            rw [hb28_204] at T
            trivial
          replace S := Lib.hid S
          clear hb28_204
          go_upto_region 28 with fail
          have S1 : Sep w ([heapR h H, boxV qva1 a] ++ b28_204) (w204) := by rw [Hb28_204.out]; exact S.out
          clear S
          refine regionL (E := [emptyR, heapR h H, boxV qva1 a]) (base := b28_204) (Sep.putE S1) ?_
          clear S1
          refine quietL ?_
          simp only [Act.put, pa]; try dsimp only [List.set]
          refine detL _ [emptyR, heapR h H, boxV qva1 a] (h1 := fun Wx hSw => by (have hz := hSw.box (b := qva1) (o := objV a) 2 rfl; have z0 := cellAt hz 0 (v := .int .i64 a.kind) rfl; have z1 := cellAt hz 1 (v := .int .i64 a.n) rfl; have z2 := cellAt hz 2 (v := .string a.s) rfl; go_simp; exact ⟨rfl, hSw⟩)) (h2 := ?_)
          simp only [Act.put, pa]; try dsimp only [List.set]
          refine allocL 0 rfl (fun q => .slice (some ⟨q, 0, none⟩) 1 1) (.cells #[.int .i64 a.kind, .int .i64 a.n, .string a.s] 29) (h1 := fun Wx => by go_simp) (h2 := fun qRA2 => ?_)
          simp only [Act.put, pa]; try dsimp only [List.set]
          try simp only [List.set_cons_zero, List.set_cons_succ]
          refine detL (.agg #[.int .i64 4, .int .i64 (m2 + 1), .string ⟨#[]⟩]) [boxV qRA2 a, heapR h (H.add (rowD 2 (by decide) a)), boxV qva1 a] (h1 := fun Wx hSw => by (go_simp; refine symCall ?_; exact made_row hSw 1 rfl HL.out.2.2.1 (by have := HN.out; omega) (by decide) (by decide) HLm.out a (hSw.box (b := qRA2) 0 rfl))) (h2 := ?_)
          simp only [Act.put, pa]; try dsimp only [List.set]
          refine detL undef [boxV qRA2 a, heapR h (H.add (rowD 2 (by decide) a)), boxW qva1 4 (m2 + 1) ⟨#[]⟩] (h1 := fun Wx hSw => by (have hz := hSw.box (b := qva1) (o := objV a) 2 rfl; refine useZ3 hz fun z0 z1 z2 y0 y1 y2 => ?_; go_simp; exact ⟨rfl, hSw.set3 2 rfl (.int .i64 4) (.int .i64 (m2 + 1)) (.string ⟨#[]⟩)⟩)) (h2 := ?_)
          simp only [Act.put, pa]; try dsimp only [List.set]
          refine doneL (h := fun w206 S => ?_)
          replace S : Sep w (boxV qRA2 a :: heapR h (H.add (rowD 2 (by decide) a)) :: boxW qva1 4 (m2 + 1) ⟨#[]⟩ :: boxV qvb1 b :: boxV q3 x0 :: []) w206 := by rw [Hb28_204.out] at S; exact S
          clear Hb28_204 Kb28_204
          replace S : Sep w (heapR h (H.add (rowD 2 (by decide) a)) :: boxV qvb1 b :: boxV qRA2 a :: boxW qva1 4 (m2 + 1) ⟨#[]⟩ :: boxV q3 x0 :: []) (w206) := by
            refine (show Sep w ([boxV qRA2 a, heapR h (H.add (rowD 2 (by decide) a)), boxW qva1 4 (m2 + 1) ⟨#[]⟩, boxV qvb1 b, boxV q3 x0] ++ []) _ from S).perm ?_
            exact List.Perm.append_right [] (perm_of (l := [boxV qRA2 a, heapR h (H.add (rowD 2 (by decide) a)), boxW qva1 4 (m2 + 1) ⟨#[]⟩, boxV qvb1 b, boxV q3 x0]) [1, 3, 0, 2, 4] (by show (List.range' 0 5).Perm [1, 3, 0, 2, 4]; decide) (by rfl))
          refine named (boxV qRA2 a :: boxW qva1 4 (m2 + 1) ⟨#[]⟩ :: boxV q3 x0 :: [] : List Res) fun b29_206 hb29_206 => ?_
          have Hb29_206 := Lib.hid hb29_206
          have Kb29_206 : Hid (∀ W (Q : List Res), Sep w (Q ++ b29_206) W → True) := Lib.hid fun W Q T => by
            rw [hb29_206] at T
            trivial
          replace S := Lib.hid S
          clear hb29_206
          go_upto_region 29 with fail
          have S1 : Sep w ([heapR h (H.add (rowD 2 (by decide) a)), boxV qvb1 b] ++ b29_206) (w206) := by rw [Hb29_206.out]; exact S.out
          clear S
          refine regionL (E := [emptyR, heapR h (H.add (rowD 2 (by decide) a)), boxV qvb1 b]) (base := b29_206) (Sep.putE S1) ?_
          clear S1
          refine quietL ?_
          simp only [Act.put, pa]; try dsimp only [List.set]
          refine detL _ [emptyR, heapR h (H.add (rowD 2 (by decide) a)), boxV qvb1 b] (h1 := fun Wx hSw => by (have hz := hSw.box (b := qvb1) (o := objV b) 2 rfl; have z0 := cellAt hz 0 (v := .int .i64 b.kind) rfl; have z1 := cellAt hz 1 (v := .int .i64 b.n) rfl; have z2 := cellAt hz 2 (v := .string b.s) rfl; go_simp; exact ⟨rfl, hSw⟩)) (h2 := ?_)
          simp only [Act.put, pa]; try dsimp only [List.set]
          refine allocL 0 rfl (fun q => .slice (some ⟨q, 0, none⟩) 1 1) (.cells #[.int .i64 b.kind, .int .i64 b.n, .string b.s] 29) (h1 := fun Wx => by go_simp) (h2 := fun qRB2 => ?_)
          simp only [Act.put, pa]; try dsimp only [List.set]
          try simp only [List.set_cons_zero, List.set_cons_succ]
          refine detL (.agg #[.int .i64 4, .int .i64 (m2 + 2), .string ⟨#[]⟩]) [boxV qRB2 b, heapR h (stepR H 2 (by decide) a b), boxV qvb1 b] (h1 := fun Wx hSw => by (go_simp; refine symCall ?_; have hh := made_row hSw 1 rfl (HL.out.2.2.1.add (rowD 2 (by decide) a) (show (1 : Int) ≤ 2 ∧ (2 : Int) ≤ 12 by decide) rfl) (by have := HN.out; show 6 * i + 1 + 2 ≤ 1000; omega) (k := 2) (by decide) (by decide) (m := m2 + 1) (by show H.last + 1 = _; rw [HLm.out]) b (hSw.box (b := qRB2) 0 rfl); rw [HOK.out.2.2] at hh; exact hh)) (h2 := ?_)
          simp only [Act.put, pa]; try dsimp only [List.set]
          refine detL undef [boxV qRB2 b, heapR h (stepR H 2 (by decide) a b), boxW qvb1 4 (m2 + 2) ⟨#[]⟩] (h1 := fun Wx hSw => by (have hz := hSw.box (b := qvb1) (o := objV b) 2 rfl; refine useZ3 hz fun z0 z1 z2 y0 y1 y2 => ?_; go_simp; exact ⟨rfl, hSw.set3 2 rfl (.int .i64 4) (.int .i64 (m2 + 2)) (.string ⟨#[]⟩)⟩)) (h2 := ?_)
          simp only [Act.put, pa]; try dsimp only [List.set]
          refine doneL (h := fun w208 S => ?_)
          replace S : Sep w (boxV qRB2 b :: heapR h (stepR H 2 (by decide) a b) :: boxW qvb1 4 (m2 + 2) ⟨#[]⟩ :: boxV qRA2 a :: boxW qva1 4 (m2 + 1) ⟨#[]⟩ :: boxV q3 x0 :: []) w208 := by rw [Hb29_206.out] at S; exact S
          clear Hb29_206 Kb29_206
          refine named (boxV qRB2 b :: heapR h (stepR H 2 (by decide) a b) :: boxW qvb1 4 (m2 + 2) ⟨#[]⟩ :: boxV qRA2 a :: boxW qva1 4 (m2 + 1) ⟨#[]⟩ :: boxV q3 x0 :: [] : List Res) fun b30_208 hb30_208 => ?_
          have Hb30_208 := Lib.hid hb30_208
          have Kb30_208 : Hid (∀ W (Q : List Res), Sep w (Q ++ b30_208) W → True) := Lib.hid fun W Q T => by
            rw [hb30_208] at T
            trivial
          replace S := Lib.hid S
          clear hb30_208
          go_upto_region 30 with fail
          have S1 : Sep w ([] ++ b30_208) (w208) := by rw [Hb30_208.out]; exact S.out
          clear S
          refine regionL (E := []) (base := b30_208) S1 ?_
          clear S1
          iterate 3 (refine quietL ?_; simp only [Act.put, pa]; try dsimp only [List.set])
          refine doneL (h := fun w210 S => ?_)
          replace S : Sep w (boxV qRB2 b :: heapR h (stepR H 2 (by decide) a b) :: boxW qvb1 4 (m2 + 2) ⟨#[]⟩ :: boxV qRA2 a :: boxW qva1 4 (m2 + 1) ⟨#[]⟩ :: boxV q3 x0 :: []) w210 := by rw [Hb30_208.out] at S; exact S
          clear Hb30_208 Kb30_208
          replace S : Sep w ([boxV qRB2 b, boxV qRA2 a, heapR h (stepR H 2 (by decide) a b), boxW qva1 4 (m2 + 1) ⟨#[]⟩, boxW qvb1 4 (m2 + 2) ⟨#[]⟩, boxV q3 x0] ++ []) (w210) := by
            refine (show Sep w ([boxV qRB2 b, heapR h (stepR H 2 (by decide) a b), boxW qvb1 4 (m2 + 2) ⟨#[]⟩, boxV qRA2 a, boxW qva1 4 (m2 + 1) ⟨#[]⟩, boxV q3 x0] ++ []) _ from S).perm ?_
            exact List.Perm.append_right [] (perm_of (l := [boxV qRB2 b, heapR h (stepR H 2 (by decide) a b), boxW qvb1 4 (m2 + 2) ⟨#[]⟩, boxV qRA2 a, boxW qva1 4 (m2 + 1) ⟨#[]⟩, boxV q3 x0]) [0, 3, 1, 4, 2, 5] (by show (List.range' 0 6).Perm [0, 3, 1, 4, 2, 5]; decide) (by rfl))
          iterate 2 replace S := S.tail
          replace S : Sep w (heapR h (stepR H 2 (by decide) a b) :: boxW qva1 4 (m2 + 1) ⟨#[]⟩ :: boxW qvb1 4 (m2 + 2) ⟨#[]⟩ :: boxV q3 x0 :: []) (w210) := S
          obtain ⟨l1, l2, l3⟩ := step_row (k := 2) (by omega) (by decide) HL.out.2.2.1 HL.out.2.1 HLm.out HOK.out.1 HOK.out.2.1
          replace S := Lib.hid S
          go_wp2
          exact ⟨⟨i + 1, 2 :: ks, (stepR H 2 (by decide) a b), V.ref (m2 + 1) HOK.out.1, V.ref (m2 + 2) HOK.out.2.1, HLT.out, Lib.hid ⟨by rw [List.length_cons, HL.out.1], l1, l2.more (by omega), by refine Eq.trans l3 ?_; rw [HM2.out]; omega⟩, by rw [show textK (2 :: ks) = 3 + textK ks from rfl, ← HTX.out]; congr 1; omega, by go_num, S.out⟩, by have := HLT.out; simp [intOf]; omega⟩
        ·
          subst hkk
          clear hk3
          have htw : IntKind.i64.wrap ((tx : Int) + 5) = ((tx + 5 : Nat) : Int) := by rw [show ((tx : Int) + 5) = ((tx + 5 : Nat) : Int) by omega]; exact IntWalk.i64_in _ (by have := HTB.out; omega)
          refine named (heapR h H :: boxV qva1 a :: boxV qvb1 b :: boxV q3 x0 :: [] : List Res) fun b23_300 hb23_300 => ?_
          have Hb23_300 := Lib.hid hb23_300
          have Kb23_300 : Hid (∀ W (Q : List Res), Sep w (Q ++ b23_300) W → True) := Lib.hid fun W Q T => by
            rw [hb23_300] at T
            trivial
          replace S := Lib.hid S
          clear hb23_300
          go_upto_region 23 with fail
          have S1 : Sep w ([] ++ b23_300) (w24) := by rw [Hb23_300.out]; exact S.out
          clear S
          refine regionL (E := []) (base := b23_300) S1 ?_
          clear S1
          iterate 2 (refine quietL ?_; simp only [Act.put, pa]; try dsimp only [List.set])
          refine doneL (h := fun w302 S => ?_)
          replace S : Sep w (heapR h H :: boxV qva1 a :: boxV qvb1 b :: boxV q3 x0 :: []) w302 := by rw [Hb23_300.out] at S; exact S
          clear Hb23_300 Kb23_300
          refine named (heapR h H :: boxV qva1 a :: boxV qvb1 b :: boxV q3 x0 :: [] : List Res) fun b27_302 hb27_302 => ?_
          have Hb27_302 := Lib.hid hb27_302
          have Kb27_302 : Hid (∀ W (Q : List Res), Sep w (Q ++ b27_302) W → True) := Lib.hid fun W Q T => by
            rw [hb27_302] at T
            trivial
          replace S := Lib.hid S
          clear hb27_302
          go_upto_region 27 with fail
          have S1 : Sep w ([] ++ b27_302) (w302) := by rw [Hb27_302.out]; exact S.out
          clear S
          refine regionL (E := []) (base := b27_302) S1 ?_
          clear S1
          iterate 2 (refine quietL ?_; simp only [Act.put, pa]; try dsimp only [List.set])
          refine doneL (h := fun w304 S => ?_)
          replace S : Sep w (heapR h H :: boxV qva1 a :: boxV qvb1 b :: boxV q3 x0 :: []) w304 := by rw [Hb27_302.out] at S; exact S
          clear Hb27_302 Kb27_302
          replace S : Sep w (heapR h H :: boxV qva1 a :: boxV qvb1 b :: boxV q3 x0 :: []) (w304) := by
            refine (show Sep w ([heapR h H, boxV qva1 a, boxV qvb1 b, boxV q3 x0] ++ []) _ from S).perm ?_
            exact List.Perm.append_right [] (perm_of (l := [heapR h H, boxV qva1 a, boxV qvb1 b, boxV q3 x0]) [0, 1, 2, 3] (by show (List.range' 0 4).Perm [0, 1, 2, 3]; decide) (by rfl))
          refine named (boxV qva1 a :: boxV qvb1 b :: boxV q3 x0 :: [] : List Res) fun b16_304 hb16_304 => ?_
          have Hb16_304 := Lib.hid hb16_304
          have Kb16_304 : Hid (∀ W (Q : List Res), Sep w (Q ++ b16_304) W → True) := Lib.hid fun W Q T => by
            rw [hb16_304] at T
            trivial
          replace S := Lib.hid S
          clear hb16_304
          go_upto_region 16 with fail
          have S1 : Sep w ([heapR h H] ++ b16_304) (w304) := by rw [Hb16_304.out]; exact S.out
          clear S
          refine regionL (E := [emptyR, heapR h H]) (base := b16_304) (Sep.putE S1) ?_
          clear S1
          refine quietL ?_
          simp only [Act.put, pa]; try dsimp only [List.set]
          refine detL (.agg #[.int .i64 4, .int .i64 (m2 + 1), .string ⟨#[]⟩]) [emptyR, heapR h (H.add dictE)] (h1 := fun Wx hSw => by (go_simp; refine symCall ?_; exact made_e hSw 1 rfl HL.out.2.2.1 (by have := HN.out; omega) dictE rfl rfl (by decide) HLm.out _ rfl _ rfl _ rfl)) (h2 := ?_)
          simp only [Act.put, pa]; try dsimp only [List.set]
          refine allocL 0 rfl (fun q => .pointer (some ⟨q, 0, none⟩)) (.cells #[.int .i64 0, .int .i64 0, .string ⟨#[]⟩] 29) (h1 := fun Wx => by go_simp) (h2 := fun qc152 => ?_)
          simp only [Act.put, pa]; try dsimp only [List.set]
          try simp only [List.set_cons_zero, List.set_cons_succ]
          refine detL undef [boxW qc152 4 (m2 + 1) ⟨#[]⟩, heapR h (H.add dictE)] (h1 := fun Wx hSw => by (have hz := hSw.box (b := qc152) (o := objZ) 0 rfl; refine useZ3 hz fun z0 z1 z2 y0 y1 y2 => ?_; go_simp; exact ⟨rfl, hSw.set3 0 rfl (.int .i64 4) (.int .i64 (m2 + 1)) (.string ⟨#[]⟩)⟩)) (h2 := ?_)
          simp only [Act.put, pa]; try dsimp only [List.set]
          refine doneL (h := fun w306 S => ?_)
          replace S : Sep w (boxW qc152 4 (m2 + 1) ⟨#[]⟩ :: heapR h (H.add dictE) :: boxV qva1 a :: boxV qvb1 b :: boxV q3 x0 :: []) w306 := by rw [Hb16_304.out] at S; exact S
          clear Hb16_304 Kb16_304
          replace S : Sep w (heapR h (H.add dictE) :: boxW qc152 4 (m2 + 1) ⟨#[]⟩ :: boxV qva1 a :: boxV qvb1 b :: boxV q3 x0 :: []) (w306) := by
            refine (show Sep w ([boxW qc152 4 (m2 + 1) ⟨#[]⟩, heapR h (H.add dictE), boxV qva1 a, boxV qvb1 b, boxV q3 x0] ++ []) _ from S).perm ?_
            exact List.Perm.append_right [] (perm_of (l := [boxW qc152 4 (m2 + 1) ⟨#[]⟩, heapR h (H.add dictE), boxV qva1 a, boxV qvb1 b, boxV q3 x0]) [1, 0, 2, 3, 4] (by show (List.range' 0 5).Perm [1, 0, 2, 3, 4]; decide) (by rfl))
          refine named (boxW qc152 4 (m2 + 1) ⟨#[]⟩ :: boxV qva1 a :: boxV qvb1 b :: boxV q3 x0 :: [] : List Res) fun b17_306 hb17_306 => ?_
          have Hb17_306 := Lib.hid hb17_306
          have Kb17_306 : Hid (∀ W (Q : List Res), Sep w (Q ++ b17_306) W → True) := Lib.hid fun W Q T => by
            rw [hb17_306] at T
            trivial
          replace S := Lib.hid S
          clear hb17_306
          go_upto_region 17 with fail
          have S1 : Sep w ([heapR h (H.add dictE)] ++ b17_306) (w306) := by rw [Hb17_306.out]; exact S.out
          clear S
          refine regionL (E := [emptyR, heapR h (H.add dictE)]) (base := b17_306) (Sep.putE S1) ?_
          clear S1
          refine quietL ?_
          simp only [Act.put, pa]; try dsimp only [List.set]
          refine detL (.agg #[.int .i64 4, .int .i64 (m2 + 2), .string ⟨#[]⟩]) [emptyR, heapR h ((H.add dictE).add dictE)] (h1 := fun Wx hSw => by (go_simp; refine symCall ?_; have hh := made_e hSw 1 rfl (HL.out.2.2.1.add dictE (by decide) rfl) (by have := HN.out; show 6 * i + 0 + 2 ≤ 1000; omega) dictE rfl rfl (by decide) (m := m2 + 1) (by show H.last + 1 = _; rw [HLm.out]) _ rfl _ rfl _ rfl; rw [HOK.out.2.2] at hh; exact hh)) (h2 := ?_)
          simp only [Act.put, pa]; try dsimp only [List.set]
          refine allocL 0 rfl (fun q => .pointer (some ⟨q, 0, none⟩)) (.cells #[.int .i64 0, .int .i64 0, .string ⟨#[]⟩] 29) (h1 := fun Wx => by go_simp) (h2 := fun qd162 => ?_)
          simp only [Act.put, pa]; try dsimp only [List.set]
          try simp only [List.set_cons_zero, List.set_cons_succ]
          refine detL undef [boxW qd162 4 (m2 + 2) ⟨#[]⟩, heapR h ((H.add dictE).add dictE)] (h1 := fun Wx hSw => by (have hz := hSw.box (b := qd162) (o := objZ) 0 rfl; refine useZ3 hz fun z0 z1 z2 y0 y1 y2 => ?_; go_simp; exact ⟨rfl, hSw.set3 0 rfl (.int .i64 4) (.int .i64 (m2 + 2)) (.string ⟨#[]⟩)⟩)) (h2 := ?_)
          simp only [Act.put, pa]; try dsimp only [List.set]
          refine doneL (h := fun w308 S => ?_)
          replace S : Sep w (boxW qd162 4 (m2 + 2) ⟨#[]⟩ :: heapR h ((H.add dictE).add dictE) :: boxW qc152 4 (m2 + 1) ⟨#[]⟩ :: boxV qva1 a :: boxV qvb1 b :: boxV q3 x0 :: []) w308 := by rw [Hb17_306.out] at S; exact S
          clear Hb17_306 Kb17_306
          obtain ⟨pc, hpc⟩ : ∃ z, z = ((H.add dictE).add dictE).canPut (V.ref (m2 + 1) HOK.out.1) keyOne := ⟨_, rfl⟩
          have HPC := Lib.hid hpc
          clear hpc
          obtain ⟨pd, hpd⟩ : ∃ z, z = (((H.add dictE).add dictE).put (V.ref (m2 + 1) HOK.out.1) keyOne a).canPut (V.ref (m2 + 2) HOK.out.2.1) keyOne := ⟨_, rfl⟩
          have HPD := Lib.hid hpd
          clear hpd
          replace S : Sep w (heapR h ((H.add dictE).add dictE) :: boxW qd162 4 (m2 + 2) ⟨#[]⟩ :: boxW qc152 4 (m2 + 1) ⟨#[]⟩ :: boxV qva1 a :: boxV qvb1 b :: boxV q3 x0 :: []) (w308) := by
            refine (show Sep w ([boxW qd162 4 (m2 + 2) ⟨#[]⟩, heapR h ((H.add dictE).add dictE), boxW qc152 4 (m2 + 1) ⟨#[]⟩, boxV qva1 a, boxV qvb1 b, boxV q3 x0] ++ []) _ from S).perm ?_
            exact List.Perm.append_right [] (perm_of (l := [boxW qd162 4 (m2 + 2) ⟨#[]⟩, heapR h ((H.add dictE).add dictE), boxW qc152 4 (m2 + 1) ⟨#[]⟩, boxV qva1 a, boxV qvb1 b, boxV q3 x0]) [1, 0, 2, 3, 4, 5] (by show (List.range' 0 6).Perm [1, 0, 2, 3, 4, 5]; decide) (by rfl))
          refine named (boxW qd162 4 (m2 + 2) ⟨#[]⟩ :: boxW qc152 4 (m2 + 1) ⟨#[]⟩ :: boxV qva1 a :: boxV qvb1 b :: boxV q3 x0 :: [] : List Res) fun b18_308 hb18_308 => ?_
          have Hb18_308 := Lib.hid hb18_308
          have Kb18_308 : Hid (∀ W (Q : List Res), Sep w (Q ++ b18_308) W → True) := Lib.hid fun W Q T => by
            rw [hb18_308] at T
            trivial
          have Cb18_308_0 := baseC3 (w := w) (b := qc152) hb18_308 1 rfl
          have Cb18_308_1 := baseC3 (w := w) (b := qva1) hb18_308 2 rfl
          have K18_2 : KC w b18_308 16 #[.int .i64 1] (.agg #[.int .i64 2, .int .i64 1, .string ⟨#[]⟩]) := Lib.hid fun W Q T => by
            exact (lnum_ok W 1).mono fun e W' ⟨e1, e2⟩ => ⟨e1, T.later e2⟩
          replace S := Lib.hid S
          clear hb18_308
          go_upto_region 18 with fail
          have S1 : Sep w ([heapR h ((H.add dictE).add dictE)] ++ b18_308) (w308) := by rw [Hb18_308.out]; exact S.out
          clear S
          refine regionP 4 1 (E := [heapR h ((H.add dictE).add dictE)]) (base := b18_308) S1 ?_
          clear S1
          refine quietP ?_
          simp only [Act.put, pa]; try dsimp only [List.set]
          refine quietPC Cb18_308_0 ?_
          simp only [Act.put, pa]; try dsimp only [List.set]
          refine quietPK K18_2 ?_
          simp only [Act.put, pa]; try dsimp only [List.set]
          refine quietPC Cb18_308_1 ?_
          simp only [Act.put, pa]; try dsimp only [List.set]
          refine endP ?_
          refine readyS [4] ?_
          refine detS (.bool pc) [heapR h (((H.add dictE).add dictE).put (V.ref (m2 + 1) HOK.out.1) keyOne a)] (h1 := fun Wx hSw => by (go_simp; refine symCall ?_; have hh := hSw.put 0 rfl (V.ref (m2 + 1) HOK.out.1) keyOne a; rw [← HPC.out] at hh; exact hh)) (h2 := ?_) (hs := nilS)
          simp only [Act.put, pa]; try dsimp only [List.set]
          refine doneS (h := fun w310 S => ?_)
          replace S : Sep w (heapR h (((H.add dictE).add dictE).put (V.ref (m2 + 1) HOK.out.1) keyOne a) :: boxW qd162 4 (m2 + 2) ⟨#[]⟩ :: boxW qc152 4 (m2 + 1) ⟨#[]⟩ :: boxV qva1 a :: boxV qvb1 b :: boxV q3 x0 :: []) w310 := by rw [Hb18_308.out] at S; exact S
          clear Hb18_308 Kb18_308 K18_2 Cb18_308_0 Cb18_308_1
          replace S : Sep w (heapR h (((H.add dictE).add dictE).put (V.ref (m2 + 1) HOK.out.1) keyOne a) :: boxW qd162 4 (m2 + 2) ⟨#[]⟩ :: boxW qc152 4 (m2 + 1) ⟨#[]⟩ :: boxV qva1 a :: boxV qvb1 b :: boxV q3 x0 :: []) (w310) := by
            refine (show Sep w ([heapR h (((H.add dictE).add dictE).put (V.ref (m2 + 1) HOK.out.1) keyOne a), boxW qd162 4 (m2 + 2) ⟨#[]⟩, boxW qc152 4 (m2 + 1) ⟨#[]⟩, boxV qva1 a, boxV qvb1 b, boxV q3 x0] ++ []) _ from S).perm ?_
            exact List.Perm.append_right [] (perm_of (l := [heapR h (((H.add dictE).add dictE).put (V.ref (m2 + 1) HOK.out.1) keyOne a), boxW qd162 4 (m2 + 2) ⟨#[]⟩, boxW qc152 4 (m2 + 1) ⟨#[]⟩, boxV qva1 a, boxV qvb1 b, boxV q3 x0]) [0, 1, 2, 3, 4, 5] (by show (List.range' 0 6).Perm [0, 1, 2, 3, 4, 5]; decide) (by rfl))
          refine named (boxW qd162 4 (m2 + 2) ⟨#[]⟩ :: boxW qc152 4 (m2 + 1) ⟨#[]⟩ :: boxV qva1 a :: boxV qvb1 b :: boxV q3 x0 :: [] : List Res) fun b19_310 hb19_310 => ?_
          have Hb19_310 := Lib.hid hb19_310
          have Kb19_310 : Hid (∀ W (Q : List Res), Sep w (Q ++ b19_310) W → True) := Lib.hid fun W Q T => by
            rw [hb19_310] at T
            trivial
          have Cb19_310_0 := baseC3 (w := w) (b := qd162) hb19_310 0 rfl
          have Cb19_310_1 := baseC3 (w := w) (b := qvb1) hb19_310 3 rfl
          have K19_2 : KC w b19_310 16 #[.int .i64 1] (.agg #[.int .i64 2, .int .i64 1, .string ⟨#[]⟩]) := Lib.hid fun W Q T => by
            exact (lnum_ok W 1).mono fun e W' ⟨e1, e2⟩ => ⟨e1, T.later e2⟩
          replace S := Lib.hid S
          clear hb19_310
          go_upto_region 19 with fail
          have S1 : Sep w ([heapR h (((H.add dictE).add dictE).put (V.ref (m2 + 1) HOK.out.1) keyOne a)] ++ b19_310) (w310) := by rw [Hb19_310.out]; exact S.out
          clear S
          refine regionP 4 1 (E := [heapR h (((H.add dictE).add dictE).put (V.ref (m2 + 1) HOK.out.1) keyOne a)]) (base := b19_310) S1 ?_
          clear S1
          refine quietP ?_
          simp only [Act.put, pa]; try dsimp only [List.set]
          refine quietPC Cb19_310_0 ?_
          simp only [Act.put, pa]; try dsimp only [List.set]
          refine quietPK K19_2 ?_
          simp only [Act.put, pa]; try dsimp only [List.set]
          refine quietPC Cb19_310_1 ?_
          simp only [Act.put, pa]; try dsimp only [List.set]
          refine endP ?_
          refine readyS [4] ?_
          refine detS (.bool pd) [heapR h (stepD H a b (V.ref (m2 + 1) HOK.out.1) (V.ref (m2 + 2) HOK.out.2.1))] (h1 := fun Wx hSw => by (go_simp; refine symCall ?_; have hh := hSw.put 0 rfl (V.ref (m2 + 2) HOK.out.2.1) keyOne b; rw [← HPD.out] at hh; exact hh)) (h2 := ?_) (hs := nilS)
          simp only [Act.put, pa]; try dsimp only [List.set]
          refine doneS (h := fun w312 S => ?_)
          replace S : Sep w (heapR h (stepD H a b (V.ref (m2 + 1) HOK.out.1) (V.ref (m2 + 2) HOK.out.2.1)) :: boxW qd162 4 (m2 + 2) ⟨#[]⟩ :: boxW qc152 4 (m2 + 1) ⟨#[]⟩ :: boxV qva1 a :: boxV qvb1 b :: boxV q3 x0 :: []) w312 := by rw [Hb19_310.out] at S; exact S
          clear Hb19_310 Kb19_310 K19_2 Cb19_310_0 Cb19_310_1
          replace S : Sep w (boxV qva1 a :: heapR h (stepD H a b (V.ref (m2 + 1) HOK.out.1) (V.ref (m2 + 2) HOK.out.2.1)) :: boxW qd162 4 (m2 + 2) ⟨#[]⟩ :: boxW qc152 4 (m2 + 1) ⟨#[]⟩ :: boxV qvb1 b :: boxV q3 x0 :: []) (w312) := by
            refine (show Sep w ([heapR h (stepD H a b (V.ref (m2 + 1) HOK.out.1) (V.ref (m2 + 2) HOK.out.2.1)), boxW qd162 4 (m2 + 2) ⟨#[]⟩, boxW qc152 4 (m2 + 1) ⟨#[]⟩, boxV qva1 a, boxV qvb1 b, boxV q3 x0] ++ []) _ from S).perm ?_
            exact List.Perm.append_right [] (perm_of (l := [heapR h (stepD H a b (V.ref (m2 + 1) HOK.out.1) (V.ref (m2 + 2) HOK.out.2.1)), boxW qd162 4 (m2 + 2) ⟨#[]⟩, boxW qc152 4 (m2 + 1) ⟨#[]⟩, boxV qva1 a, boxV qvb1 b, boxV q3 x0]) [3, 0, 1, 2, 4, 5] (by show (List.range' 0 6).Perm [3, 0, 1, 2, 4, 5]; decide) (by rfl))
          refine named (heapR h (stepD H a b (V.ref (m2 + 1) HOK.out.1) (V.ref (m2 + 2) HOK.out.2.1)) :: boxW qd162 4 (m2 + 2) ⟨#[]⟩ :: boxW qc152 4 (m2 + 1) ⟨#[]⟩ :: boxV qvb1 b :: boxV q3 x0 :: [] : List Res) fun b20_312 hb20_312 => ?_
          have Hb20_312 := Lib.hid hb20_312
          have Kb20_312 : Hid (∀ W (Q : List Res), Sep w (Q ++ b20_312) W → True) := Lib.hid fun W Q T => by
            rw [hb20_312] at T
            trivial
          have Cb20_312_0 := baseC3 (w := w) (b := qc152) hb20_312 2 rfl
          replace S := Lib.hid S
          clear hb20_312
          go_upto_region 20 with fail
          have S1 : Sep w ([boxV qva1 a] ++ b20_312) (w312) := by rw [Hb20_312.out]; exact S.out
          clear S
          refine regionL (E := [boxV qva1 a]) (base := b20_312) S1 ?_
          clear S1
          refine quietLC Cb20_312_0 ?_
          simp only [Act.put, pa]; try dsimp only [List.set]
          refine detL undef [boxW qva1 4 (m2 + 1) ⟨#[]⟩] (h1 := fun Wx hSw => by (have hz := hSw.box (b := qva1) (o := objV a) 0 rfl; refine useZ3 hz fun z0 z1 z2 y0 y1 y2 => ?_; go_simp; exact ⟨rfl, hSw.set3 0 rfl (.int .i64 4) (.int .i64 (m2 + 1)) (.string ⟨#[]⟩)⟩)) (h2 := ?_)
          simp only [Act.put, pa]; try dsimp only [List.set]
          refine doneL (h := fun w314 S => ?_)
          replace S : Sep w (boxW qva1 4 (m2 + 1) ⟨#[]⟩ :: heapR h (stepD H a b (V.ref (m2 + 1) HOK.out.1) (V.ref (m2 + 2) HOK.out.2.1)) :: boxW qd162 4 (m2 + 2) ⟨#[]⟩ :: boxW qc152 4 (m2 + 1) ⟨#[]⟩ :: boxV qvb1 b :: boxV q3 x0 :: []) w314 := by rw [Hb20_312.out] at S; exact S
          clear Hb20_312 Kb20_312 Cb20_312_0
          replace S : Sep w (boxV qvb1 b :: boxW qva1 4 (m2 + 1) ⟨#[]⟩ :: heapR h (stepD H a b (V.ref (m2 + 1) HOK.out.1) (V.ref (m2 + 2) HOK.out.2.1)) :: boxW qd162 4 (m2 + 2) ⟨#[]⟩ :: boxW qc152 4 (m2 + 1) ⟨#[]⟩ :: boxV q3 x0 :: []) (w314) := by
            refine (show Sep w ([boxW qva1 4 (m2 + 1) ⟨#[]⟩, heapR h (stepD H a b (V.ref (m2 + 1) HOK.out.1) (V.ref (m2 + 2) HOK.out.2.1)), boxW qd162 4 (m2 + 2) ⟨#[]⟩, boxW qc152 4 (m2 + 1) ⟨#[]⟩, boxV qvb1 b, boxV q3 x0] ++ []) _ from S).perm ?_
            exact List.Perm.append_right [] (perm_of (l := [boxW qva1 4 (m2 + 1) ⟨#[]⟩, heapR h (stepD H a b (V.ref (m2 + 1) HOK.out.1) (V.ref (m2 + 2) HOK.out.2.1)), boxW qd162 4 (m2 + 2) ⟨#[]⟩, boxW qc152 4 (m2 + 1) ⟨#[]⟩, boxV qvb1 b, boxV q3 x0]) [4, 0, 1, 2, 3, 5] (by show (List.range' 0 6).Perm [4, 0, 1, 2, 3, 5]; decide) (by rfl))
          refine named (boxW qva1 4 (m2 + 1) ⟨#[]⟩ :: heapR h (stepD H a b (V.ref (m2 + 1) HOK.out.1) (V.ref (m2 + 2) HOK.out.2.1)) :: boxW qd162 4 (m2 + 2) ⟨#[]⟩ :: boxW qc152 4 (m2 + 1) ⟨#[]⟩ :: boxV q3 x0 :: [] : List Res) fun b21_314 hb21_314 => ?_
          have Hb21_314 := Lib.hid hb21_314
          have Kb21_314 : Hid (∀ W (Q : List Res), Sep w (Q ++ b21_314) W → True) := Lib.hid fun W Q T => by
            rw [hb21_314] at T
            trivial
          have Cb21_314_0 := baseC3 (w := w) (b := qd162) hb21_314 2 rfl
          replace S := Lib.hid S
          clear hb21_314
          go_upto_region 21 with fail
          have S1 : Sep w ([boxV qvb1 b] ++ b21_314) (w314) := by rw [Hb21_314.out]; exact S.out
          clear S
          refine regionL (E := [boxV qvb1 b]) (base := b21_314) S1 ?_
          clear S1
          refine quietLC Cb21_314_0 ?_
          simp only [Act.put, pa]; try dsimp only [List.set]
          refine detL undef [boxW qvb1 4 (m2 + 2) ⟨#[]⟩] (h1 := fun Wx hSw => by (have hz := hSw.box (b := qvb1) (o := objV b) 0 rfl; refine useZ3 hz fun z0 z1 z2 y0 y1 y2 => ?_; go_simp; exact ⟨rfl, hSw.set3 0 rfl (.int .i64 4) (.int .i64 (m2 + 2)) (.string ⟨#[]⟩)⟩)) (h2 := ?_)
          simp only [Act.put, pa]; try dsimp only [List.set]
          refine doneL (h := fun w316 S => ?_)
          replace S : Sep w (boxW qvb1 4 (m2 + 2) ⟨#[]⟩ :: boxW qva1 4 (m2 + 1) ⟨#[]⟩ :: heapR h (stepD H a b (V.ref (m2 + 1) HOK.out.1) (V.ref (m2 + 2) HOK.out.2.1)) :: boxW qd162 4 (m2 + 2) ⟨#[]⟩ :: boxW qc152 4 (m2 + 1) ⟨#[]⟩ :: boxV q3 x0 :: []) w316 := by rw [Hb21_314.out] at S; exact S
          clear Hb21_314 Kb21_314 Cb21_314_0
          refine named (boxW qvb1 4 (m2 + 2) ⟨#[]⟩ :: boxW qva1 4 (m2 + 1) ⟨#[]⟩ :: heapR h (stepD H a b (V.ref (m2 + 1) HOK.out.1) (V.ref (m2 + 2) HOK.out.2.1)) :: boxW qd162 4 (m2 + 2) ⟨#[]⟩ :: boxW qc152 4 (m2 + 1) ⟨#[]⟩ :: boxV q3 x0 :: [] : List Res) fun b22_316 hb22_316 => ?_
          have Hb22_316 := Lib.hid hb22_316
          have Kb22_316 : Hid (∀ W (Q : List Res), Sep w (Q ++ b22_316) W → True) := Lib.hid fun W Q T => by
            rw [hb22_316] at T
            trivial
          replace S := Lib.hid S
          clear hb22_316
          go_upto_region 22 with fail
          have S1 : Sep w ([] ++ b22_316) (w316) := by rw [Hb22_316.out]; exact S.out
          clear S
          refine regionL (E := []) (base := b22_316) S1 ?_
          clear S1
          iterate 3 (refine quietL ?_; simp only [Act.put, pa]; try dsimp only [List.set])
          refine doneL (h := fun w318 S => ?_)
          replace S : Sep w (boxW qvb1 4 (m2 + 2) ⟨#[]⟩ :: boxW qva1 4 (m2 + 1) ⟨#[]⟩ :: heapR h (stepD H a b (V.ref (m2 + 1) HOK.out.1) (V.ref (m2 + 2) HOK.out.2.1)) :: boxW qd162 4 (m2 + 2) ⟨#[]⟩ :: boxW qc152 4 (m2 + 1) ⟨#[]⟩ :: boxV q3 x0 :: []) w318 := by rw [Hb22_316.out] at S; exact S
          clear Hb22_316 Kb22_316
          replace S : Sep w ([boxW qd162 4 (m2 + 2) ⟨#[]⟩, boxW qc152 4 (m2 + 1) ⟨#[]⟩, heapR h (stepD H a b (V.ref (m2 + 1) HOK.out.1) (V.ref (m2 + 2) HOK.out.2.1)), boxW qva1 4 (m2 + 1) ⟨#[]⟩, boxW qvb1 4 (m2 + 2) ⟨#[]⟩, boxV q3 x0] ++ []) (w318) := by
            refine (show Sep w ([boxW qvb1 4 (m2 + 2) ⟨#[]⟩, boxW qva1 4 (m2 + 1) ⟨#[]⟩, heapR h (stepD H a b (V.ref (m2 + 1) HOK.out.1) (V.ref (m2 + 2) HOK.out.2.1)), boxW qd162 4 (m2 + 2) ⟨#[]⟩, boxW qc152 4 (m2 + 1) ⟨#[]⟩, boxV q3 x0] ++ []) _ from S).perm ?_
            exact List.Perm.append_right [] (perm_of (l := [boxW qvb1 4 (m2 + 2) ⟨#[]⟩, boxW qva1 4 (m2 + 1) ⟨#[]⟩, heapR h (stepD H a b (V.ref (m2 + 1) HOK.out.1) (V.ref (m2 + 2) HOK.out.2.1)), boxW qd162 4 (m2 + 2) ⟨#[]⟩, boxW qc152 4 (m2 + 1) ⟨#[]⟩, boxV q3 x0]) [3, 4, 2, 1, 0, 5] (by show (List.range' 0 6).Perm [3, 4, 2, 1, 0, 5]; decide) (by rfl))
          iterate 2 replace S := S.tail
          replace S : Sep w (heapR h (stepD H a b (V.ref (m2 + 1) HOK.out.1) (V.ref (m2 + 2) HOK.out.2.1)) :: boxW qva1 4 (m2 + 1) ⟨#[]⟩ :: boxW qvb1 4 (m2 + 2) ⟨#[]⟩ :: boxV q3 x0 :: []) (w318) := S
          obtain ⟨l1, l2, l3⟩ := step_dict HL.out.2.2.1 HL.out.2.1 HLm.out HOK.out.1 HOK.out.2.1
          replace S := Lib.hid S
          go_wp2
          exact ⟨⟨i + 1, 3 :: ks, (stepD H a b (V.ref (m2 + 1) HOK.out.1) (V.ref (m2 + 2) HOK.out.2.1)), V.ref (m2 + 1) HOK.out.1, V.ref (m2 + 2) HOK.out.2.1, HLT.out, Lib.hid ⟨by rw [List.length_cons, HL.out.1], l1, l2.more (by omega), by refine Eq.trans l3 ?_; rw [HM2.out]; omega⟩, by rw [show textK (3 :: ks) = 5 + textK ks from rfl, ← HTX.out]; congr 1; omega, by go_num, S.out⟩, by have := HLT.out; simp [intOf]; omega⟩
      ·
        have hbi : ¬ (i : Int) < l.length := by omega
        refine named (heapR h H :: boxV qva1 a :: boxV qvb1 b :: boxV q3 x0 :: [] : List Res) fun b13_600 hb13_600 => ?_
        have Hb13_600 := Lib.hid hb13_600
        have Kb13_600 : Hid (∀ W (Q : List Res), Sep w (Q ++ b13_600) W → True) := Lib.hid fun W Q T => by
          rw [hb13_600] at T
          trivial
        replace S := Lib.hid S
        clear hb13_600
        go_upto_region 13 with fail
        have S1 : Sep w ([] ++ b13_600) (wr) := by rw [Hb13_600.out]; exact S.out
        clear S
        refine regionL (E := []) (base := b13_600) S1 ?_
        clear S1
        iterate 4 (refine quietL ?_; simp only [Act.put, pa]; try dsimp only [List.set])
        refine doneL (h := fun w602 S => ?_)
        replace S : Sep w (heapR h H :: boxV qva1 a :: boxV qvb1 b :: boxV q3 x0 :: []) w602 := by rw [Hb13_600.out] at S; exact S
        clear Hb13_600 Kb13_600
        clear hbi
        have htw : IntKind.i64.wrap ((tx : Int) + 2) = ((tx + 2 : Nat) : Int) := by rw [show ((tx : Int) + 2) = ((tx + 2 : Nat) : Int) by omega]; exact IntWalk.i64_in _ (by have := HTB.out; omega)
        refine named (heapR h H :: boxV qva1 a :: boxV qvb1 b :: boxV q3 x0 :: [] : List Res) fun b23_620 hb23_620 => ?_
        have Hb23_620 := Lib.hid hb23_620
        have Kb23_620 : Hid (∀ W (Q : List Res), Sep w (Q ++ b23_620) W → True) := Lib.hid fun W Q T => by
          rw [hb23_620] at T
          trivial
        replace S := Lib.hid S
        clear hb23_620
        go_upto_region 23 with fail
        have S1 : Sep w ([] ++ b23_620) (w602) := by rw [Hb23_620.out]; exact S.out
        clear S
        refine regionL (E := []) (base := b23_620) S1 ?_
        clear S1
        iterate 2 (refine quietL ?_; simp only [Act.put, pa]; try dsimp only [List.set])
        refine doneL (h := fun w622 S => ?_)
        replace S : Sep w (heapR h H :: boxV qva1 a :: boxV qvb1 b :: boxV q3 x0 :: []) w622 := by rw [Hb23_620.out] at S; exact S
        clear Hb23_620 Kb23_620
        replace S : Sep w (heapR h H :: boxV qva1 a :: boxV qvb1 b :: boxV q3 x0 :: []) (w622) := by
          refine (show Sep w ([heapR h H, boxV qva1 a, boxV qvb1 b, boxV q3 x0] ++ []) _ from S).perm ?_
          exact List.Perm.append_right [] (perm_of (l := [heapR h H, boxV qva1 a, boxV qvb1 b, boxV q3 x0]) [0, 1, 2, 3] (by show (List.range' 0 4).Perm [0, 1, 2, 3]; decide) (by rfl))
        refine named (boxV qvb1 b :: boxV q3 x0 :: [] : List Res) fun b24_622 hb24_622 => ?_
        have Hb24_622 := Lib.hid hb24_622
        have Kb24_622 : Hid (∀ W (Q : List Res), Sep w (Q ++ b24_622) W → True) := Lib.hid fun W Q T => by
          rw [hb24_622] at T
          trivial
        replace S := Lib.hid S
        clear hb24_622
        go_upto_region 24 with fail
        have S1 : Sep w ([heapR h H, boxV qva1 a] ++ b24_622) (w622) := by rw [Hb24_622.out]; exact S.out
        clear S
        refine regionL (E := [emptyR, heapR h H, boxV qva1 a]) (base := b24_622) (Sep.putE S1) ?_
        clear S1
        refine quietL ?_
        simp only [Act.put, pa]; try dsimp only [List.set]
        refine detL _ [emptyR, heapR h H, boxV qva1 a] (h1 := fun Wx hSw => by (have hz := hSw.box (b := qva1) (o := objV a) 2 rfl; have z0 := cellAt hz 0 (v := .int .i64 a.kind) rfl; have z1 := cellAt hz 1 (v := .int .i64 a.n) rfl; have z2 := cellAt hz 2 (v := .string a.s) rfl; go_simp; exact ⟨rfl, hSw⟩)) (h2 := ?_)
        simp only [Act.put, pa]; try dsimp only [List.set]
        refine allocL 0 rfl (fun q => .slice (some ⟨q, 0, none⟩) 1 1) (.cells #[.int .i64 a.kind, .int .i64 a.n, .string a.s] 29) (h1 := fun Wx => by go_simp) (h2 := fun qRA2 => ?_)
        simp only [Act.put, pa]; try dsimp only [List.set]
        try simp only [List.set_cons_zero, List.set_cons_succ]
        refine detL (.agg #[.int .i64 4, .int .i64 (m2 + 1), .string ⟨#[]⟩]) [boxV qRA2 a, heapR h (H.add (rowD 1 (by decide) a)), boxV qva1 a] (h1 := fun Wx hSw => by (go_simp; refine symCall ?_; exact made_row hSw 1 rfl HL.out.2.2.1 (by have := HN.out; omega) (by decide) (by decide) HLm.out a (hSw.box (b := qRA2) 0 rfl))) (h2 := ?_)
        simp only [Act.put, pa]; try dsimp only [List.set]
        refine detL undef [boxV qRA2 a, heapR h (H.add (rowD 1 (by decide) a)), boxW qva1 4 (m2 + 1) ⟨#[]⟩] (h1 := fun Wx hSw => by (have hz := hSw.box (b := qva1) (o := objV a) 2 rfl; refine useZ3 hz fun z0 z1 z2 y0 y1 y2 => ?_; go_simp; exact ⟨rfl, hSw.set3 2 rfl (.int .i64 4) (.int .i64 (m2 + 1)) (.string ⟨#[]⟩)⟩)) (h2 := ?_)
        simp only [Act.put, pa]; try dsimp only [List.set]
        refine doneL (h := fun w624 S => ?_)
        replace S : Sep w (boxV qRA2 a :: heapR h (H.add (rowD 1 (by decide) a)) :: boxW qva1 4 (m2 + 1) ⟨#[]⟩ :: boxV qvb1 b :: boxV q3 x0 :: []) w624 := by rw [Hb24_622.out] at S; exact S
        clear Hb24_622 Kb24_622
        replace S : Sep w (heapR h (H.add (rowD 1 (by decide) a)) :: boxV qvb1 b :: boxV qRA2 a :: boxW qva1 4 (m2 + 1) ⟨#[]⟩ :: boxV q3 x0 :: []) (w624) := by
          refine (show Sep w ([boxV qRA2 a, heapR h (H.add (rowD 1 (by decide) a)), boxW qva1 4 (m2 + 1) ⟨#[]⟩, boxV qvb1 b, boxV q3 x0] ++ []) _ from S).perm ?_
          exact List.Perm.append_right [] (perm_of (l := [boxV qRA2 a, heapR h (H.add (rowD 1 (by decide) a)), boxW qva1 4 (m2 + 1) ⟨#[]⟩, boxV qvb1 b, boxV q3 x0]) [1, 3, 0, 2, 4] (by show (List.range' 0 5).Perm [1, 3, 0, 2, 4]; decide) (by rfl))
        refine named (boxV qRA2 a :: boxW qva1 4 (m2 + 1) ⟨#[]⟩ :: boxV q3 x0 :: [] : List Res) fun b25_624 hb25_624 => ?_
        have Hb25_624 := Lib.hid hb25_624
        have Kb25_624 : Hid (∀ W (Q : List Res), Sep w (Q ++ b25_624) W → True) := Lib.hid fun W Q T => by
          rw [hb25_624] at T
          trivial
        replace S := Lib.hid S
        clear hb25_624
        go_upto_region 25 with fail
        have S1 : Sep w ([heapR h (H.add (rowD 1 (by decide) a)), boxV qvb1 b] ++ b25_624) (w624) := by rw [Hb25_624.out]; exact S.out
        clear S
        refine regionL (E := [emptyR, heapR h (H.add (rowD 1 (by decide) a)), boxV qvb1 b]) (base := b25_624) (Sep.putE S1) ?_
        clear S1
        refine quietL ?_
        simp only [Act.put, pa]; try dsimp only [List.set]
        refine detL _ [emptyR, heapR h (H.add (rowD 1 (by decide) a)), boxV qvb1 b] (h1 := fun Wx hSw => by (have hz := hSw.box (b := qvb1) (o := objV b) 2 rfl; have z0 := cellAt hz 0 (v := .int .i64 b.kind) rfl; have z1 := cellAt hz 1 (v := .int .i64 b.n) rfl; have z2 := cellAt hz 2 (v := .string b.s) rfl; go_simp; exact ⟨rfl, hSw⟩)) (h2 := ?_)
        simp only [Act.put, pa]; try dsimp only [List.set]
        refine allocL 0 rfl (fun q => .slice (some ⟨q, 0, none⟩) 1 1) (.cells #[.int .i64 b.kind, .int .i64 b.n, .string b.s] 29) (h1 := fun Wx => by go_simp) (h2 := fun qRB2 => ?_)
        simp only [Act.put, pa]; try dsimp only [List.set]
        try simp only [List.set_cons_zero, List.set_cons_succ]
        refine detL (.agg #[.int .i64 4, .int .i64 (m2 + 2), .string ⟨#[]⟩]) [boxV qRB2 b, heapR h (stepR H 1 (by decide) a b), boxV qvb1 b] (h1 := fun Wx hSw => by (go_simp; refine symCall ?_; have hh := made_row hSw 1 rfl (HL.out.2.2.1.add (rowD 1 (by decide) a) (show (1 : Int) ≤ 1 ∧ (1 : Int) ≤ 12 by decide) rfl) (by have := HN.out; show 6 * i + 1 + 2 ≤ 1000; omega) (k := 1) (by decide) (by decide) (m := m2 + 1) (by show H.last + 1 = _; rw [HLm.out]) b (hSw.box (b := qRB2) 0 rfl); rw [HOK.out.2.2] at hh; exact hh)) (h2 := ?_)
        simp only [Act.put, pa]; try dsimp only [List.set]
        refine detL undef [boxV qRB2 b, heapR h (stepR H 1 (by decide) a b), boxW qvb1 4 (m2 + 2) ⟨#[]⟩] (h1 := fun Wx hSw => by (have hz := hSw.box (b := qvb1) (o := objV b) 2 rfl; refine useZ3 hz fun z0 z1 z2 y0 y1 y2 => ?_; go_simp; exact ⟨rfl, hSw.set3 2 rfl (.int .i64 4) (.int .i64 (m2 + 2)) (.string ⟨#[]⟩)⟩)) (h2 := ?_)
        simp only [Act.put, pa]; try dsimp only [List.set]
        refine doneL (h := fun w626 S => ?_)
        replace S : Sep w (boxV qRB2 b :: heapR h (stepR H 1 (by decide) a b) :: boxW qvb1 4 (m2 + 2) ⟨#[]⟩ :: boxV qRA2 a :: boxW qva1 4 (m2 + 1) ⟨#[]⟩ :: boxV q3 x0 :: []) w626 := by rw [Hb25_624.out] at S; exact S
        clear Hb25_624 Kb25_624
        refine named (boxV qRB2 b :: heapR h (stepR H 1 (by decide) a b) :: boxW qvb1 4 (m2 + 2) ⟨#[]⟩ :: boxV qRA2 a :: boxW qva1 4 (m2 + 1) ⟨#[]⟩ :: boxV q3 x0 :: [] : List Res) fun b26_626 hb26_626 => ?_
        have Hb26_626 := Lib.hid hb26_626
        have Kb26_626 : Hid (∀ W (Q : List Res), Sep w (Q ++ b26_626) W → True) := Lib.hid fun W Q T => by
          rw [hb26_626] at T
          trivial
        replace S := Lib.hid S
        clear hb26_626
        go_upto_region 26 with fail
        have S1 : Sep w ([] ++ b26_626) (w626) := by rw [Hb26_626.out]; exact S.out
        clear S
        refine regionL (E := []) (base := b26_626) S1 ?_
        clear S1
        iterate 3 (refine quietL ?_; simp only [Act.put, pa]; try dsimp only [List.set])
        refine doneL (h := fun w628 S => ?_)
        replace S : Sep w (boxV qRB2 b :: heapR h (stepR H 1 (by decide) a b) :: boxW qvb1 4 (m2 + 2) ⟨#[]⟩ :: boxV qRA2 a :: boxW qva1 4 (m2 + 1) ⟨#[]⟩ :: boxV q3 x0 :: []) w628 := by rw [Hb26_626.out] at S; exact S
        clear Hb26_626 Kb26_626
        replace S : Sep w ([boxV qRB2 b, boxV qRA2 a, heapR h (stepR H 1 (by decide) a b), boxW qva1 4 (m2 + 1) ⟨#[]⟩, boxW qvb1 4 (m2 + 2) ⟨#[]⟩, boxV q3 x0] ++ []) (w628) := by
          refine (show Sep w ([boxV qRB2 b, heapR h (stepR H 1 (by decide) a b), boxW qvb1 4 (m2 + 2) ⟨#[]⟩, boxV qRA2 a, boxW qva1 4 (m2 + 1) ⟨#[]⟩, boxV q3 x0] ++ []) _ from S).perm ?_
          exact List.Perm.append_right [] (perm_of (l := [boxV qRB2 b, heapR h (stepR H 1 (by decide) a b), boxW qvb1 4 (m2 + 2) ⟨#[]⟩, boxV qRA2 a, boxW qva1 4 (m2 + 1) ⟨#[]⟩, boxV q3 x0]) [0, 3, 1, 4, 2, 5] (by show (List.range' 0 6).Perm [0, 3, 1, 4, 2, 5]; decide) (by rfl))
        iterate 2 replace S := S.tail
        replace S : Sep w (heapR h (stepR H 1 (by decide) a b) :: boxW qva1 4 (m2 + 1) ⟨#[]⟩ :: boxW qvb1 4 (m2 + 2) ⟨#[]⟩ :: boxV q3 x0 :: []) (w628) := S
        obtain ⟨l1, l2, l3⟩ := step_row (k := 1) (by omega) (by decide) HL.out.2.2.1 HL.out.2.1 HLm.out HOK.out.1 HOK.out.2.1
        replace S := Lib.hid S
        go_wp2
        exact ⟨⟨i + 1, 1 :: ks, (stepR H 1 (by decide) a b), V.ref (m2 + 1) HOK.out.1, V.ref (m2 + 2) HOK.out.2.1, HLT.out, Lib.hid ⟨by rw [List.length_cons, HL.out.1], l1, l2.more (by omega), by refine Eq.trans l3 ?_; rw [HM2.out]; omega⟩, by rw [show textK (1 :: ks) = 2 + textK ks from rfl, ← HTX.out]; congr 1; omega, by go_num, S.out⟩, by have := HLT.out; simp [intOf]; omega⟩
    ·
      obtain rfl : i = many := by omega
      have hnot : ¬ ((i : Int) < i) := by omega
      replace S : Sep w (heapR h H :: boxV qva1 a :: boxV qvb1 b :: boxV q3 x0 :: []) wr := S
      have hxl := num_short H x HX.out.1
      have htl := @textK_le ks
      obtain ⟨tx, htx⟩ : ∃ t : Nat, t = textK ks := ⟨_, rfl⟩
      obtain ⟨lx, hlx⟩ : ∃ t : List UInt8, t = H.plainL x := ⟨_, rfl⟩
      have hin : InLay H x a := .inr ⟨ks, b, HL.out.2.1⟩
      have hs0 := same_lay HL.out.2.1 30
      have ht0 := tell_lay (by have := HX.out.1; omega) HL.out.2.1 30 (t := ⟨[], .no⟩) rfl (by have := HL.out.1; have := HMN.out; simp; omega)
      rw [← hlx] at hxl
      have hrx : H.reprM x = ⟨lx, .no⟩ := by
        unfold HeapM.reprM
        rw [tell_plain rfl (whole_no_ref (by have := HX.out.1; omega)), say_fits rfl (by rw [← hlx]; simp; omega), hlx]; rfl
      rw [← htx] at htl ⊢
      rw [← htx, ← hlx] at ht0
      obtain ⟨sr, st, sn, ss, sm, hrep, hsam, hdeep⟩ : ∃ (r : TelM) (st sn : ByteArray) (ss : Bool) (sm : ByteArray), (H.reprM a = r ∧ reprV r = .tuple #[.string st, excN sn]) ∧ (sameV (H.sameF 30 a b) = .tuple #[.bool ss, excN sm]) ∧ ((30 < i ∧ st = ⟨#[]⟩ ∧ sn = recursionError ∧ ss = false ∧ sm = recursionError) ∨ (i ≤ 30 ∧ st.size = tx + lx.length ∧ sn = ⟨#[]⟩ ∧ ss = true ∧ sm = ⟨#[]⟩)) := by
        by_cases h30 : 30 < i
        · have e := ht0.2 (by rw [HL.out.1]; exact h30)
          refine ⟨_, ⟨#[]⟩, recursionError, false, recursionError, ⟨rfl, ?_⟩, ?_, .inl ⟨h30, rfl, rfl, rfl, rfl⟩⟩
          · unfold reprV HeapM.reprM; rw [e]; rfl
          · rw [hs0, if_neg (by rw [HL.out.1]; omega)]; rfl
        · obtain ⟨s, e1, e2⟩ := ht0.1 (by rw [HL.out.1]; omega)
          refine ⟨_, ⟨s.toArray⟩, ⟨#[]⟩, true, ⟨#[]⟩, ⟨rfl, ?_⟩, ?_, .inr ⟨by omega, by rw [← e2]; rfl, rfl, rfl, rfl⟩⟩
          · unfold reprV HeapM.reprM; rw [e1]; rfl
          · rw [hs0, if_pos (by rw [HL.out.1]; omega)]; rfl
      have HREP := Lib.hid hrep
      have HSAM := Lib.hid hsam
      have HDEEP := Lib.hid hdeep
      have HIN := Lib.hid hin
      have HRX := Lib.hid hrx
      have HXL := Lib.hid (And.intro hxl htl)
      have HTX := Lib.hid htx
      have HN : Hid (6 * i ≤ 400) := Lib.hid (by have := HMN.out; omega)
      obtain ⟨TXx, htxx⟩ : ∃ t : ByteArray, t = ⟨lx.toArray⟩ := ⟨_, rfl⟩
      have HTXX := Lib.hid htxx
      clear hrep hsam hdeep hin hrx hxl htl hs0 ht0 htx hlx hlt hi htxx
      refine named (heapR h H :: boxV qva1 a :: boxV qvb1 b :: boxV q3 x0 :: [] : List Res) fun b31_500 hb31_500 => ?_
      have Hb31_500 := Lib.hid hb31_500
      have Kb31_500 : Hid (∀ W (Q : List Res), Sep w (Q ++ b31_500) W → True) := Lib.hid fun W Q T => by
        rw [hb31_500] at T
        trivial
      have Cb31_500_0 := baseC3 (w := w) (b := qva1) hb31_500 1 rfl
      have K31_2 : KC w b31_500 25 #[hpV h, agV a] (.tuple #[.string st, excN sn]) := Lib.hid fun W Q T => by
        rw [Hb31_500.out] at T ⊢
        exact (by have hh := repr_deep T (Q.length + 0) (atR rfl) HL.out.2.2.1 (by have := HN.out; omega) HXF.out a HIN.out sr HREP.out.1; rw [HREP.out.2] at hh; exact hh)
      replace S := Lib.hid S
      clear hb31_500
      go_upto_region 31 with fail
      have S1 : Sep w ([] ++ b31_500) (wr) := by rw [Hb31_500.out]; exact S.out
      clear S
      refine regionL (E := [emptyR]) (base := b31_500) (Sep.putE S1) ?_
      clear S1
      refine quietL ?_
      simp only [Act.put, pa]; try dsimp only [List.set]
      refine quietLC Cb31_500_0 ?_
      simp only [Act.put, pa]; try dsimp only [List.set]
      refine quietLK K31_2 ?_
      simp only [Act.put, pa]; try dsimp only [List.set]
      iterate 3 (refine quietL ?_; simp only [Act.put, pa]; try dsimp only [List.set])
      refine allocL 0 rfl (fun q => .pointer (some ⟨q, 0, none⟩)) (.cells #[.string ⟨#[]⟩, .int .i64 0, .int .i64 0, .string ⟨#[]⟩, .bool false] 38) (h1 := fun Wx => by go_simp) (h2 := fun qe311 => ?_)
      simp only [Act.put, pa]; try dsimp only [List.set]
      try simp only [List.set_cons_zero, List.set_cons_succ]
      refine quietL ?_
      simp only [Act.put, pa]; try dsimp only [List.set]
      refine detL undef [boxN qe311 sn] (h1 := fun Wx hSw => by (have hz := hSw.box (b := qe311) (o := objE) 0 rfl; refine useZ5 hz fun z0 z1 z2 z3 z4 y0 y1 y2 y3 y4 => ?_; go_simp; exact ⟨rfl, hSw.set5 0 rfl (.string sn) (.int .i64 0) (.int .i64 0) (.string ⟨#[]⟩) (.bool false)⟩)) (h2 := ?_)
      simp only [Act.put, pa]; try dsimp only [List.set]
      refine doneL (h := fun w502 S => ?_)
      replace S : Sep w (boxN qe311 sn :: heapR h H :: boxV qva1 a :: boxV qvb1 b :: boxV q3 x0 :: []) w502 := by rw [Hb31_500.out] at S; exact S
      clear Hb31_500 Kb31_500 K31_2 Cb31_500_0
      refine named (boxN qe311 sn :: heapR h H :: boxV qva1 a :: boxV qvb1 b :: boxV q3 x0 :: [] : List Res) fun b32_502 hb32_502 => ?_
      have Hb32_502 := Lib.hid hb32_502
      have Kb32_502 : Hid (∀ W (Q : List Res), Sep w (Q ++ b32_502) W → True) := Lib.hid fun W Q T => by
        rw [hb32_502] at T
        trivial
      have Cb32_502_0 := baseC3 (w := w) (b := q3) hb32_502 4 rfl
      have K32_4 : KC w b32_502 25 #[hpV h, agV x] (.tuple #[.string TXx, excN ⟨#[]⟩]) := Lib.hid fun W Q T => by
        rw [Hb32_502.out] at T ⊢
        exact (by have hh := repr_deep T (Q.length + 1) (atR rfl) HL.out.2.2.1 (by have := HN.out; omega) HXF.out x (.inr ⟨[], x, .leaf⟩) _ HRX.out; rw [HTXX.out]; exact hh)
      have K32_3 : KC w b32_502 16 #[.int .i64 x0.n] (.agg #[.int .i64 x.kind, .int .i64 x.n, .string x.s]) := Lib.hid fun W Q T => by
        rw [Hb32_502.out] at T ⊢
        exact (by have hh := lnum_ok W x0.n; have e1 := HX.out.1; have e2 := HX.out.2.1; have e3 := HX.out.2.2; rw [e1, ← e2, e3]; exact hh.mono fun e W' ⟨e1, e2⟩ => ⟨e1, T.later e2⟩)
      replace S := Lib.hid S
      clear hb32_502
      go_upto_region 32 with fail
      have S1 : Sep w ([] ++ b32_502) (w502) := by rw [Hb32_502.out]; exact S.out
      clear S
      refine regionL (E := [emptyR]) (base := b32_502) (Sep.putE S1) ?_
      clear S1
      iterate 2 (refine quietL ?_; simp only [Act.put, pa]; try dsimp only [List.set])
      refine quietLC Cb32_502_0 ?_
      simp only [Act.put, pa]; try dsimp only [List.set]
      refine quietLK K32_3 ?_
      simp only [Act.put, pa]; try dsimp only [List.set]
      refine quietLK K32_4 ?_
      simp only [Act.put, pa]; try dsimp only [List.set]
      iterate 3 (refine quietL ?_; simp only [Act.put, pa]; try dsimp only [List.set])
      refine allocL 0 rfl (fun q => .pointer (some ⟨q, 0, none⟩)) (.cells #[.string ⟨#[]⟩, .int .i64 0, .int .i64 0, .string ⟨#[]⟩, .bool false] 38) (h1 := fun Wx => by go_simp) (h2 := fun qe321 => ?_)
      simp only [Act.put, pa]; try dsimp only [List.set]
      try simp only [List.set_cons_zero, List.set_cons_succ]
      refine quietL ?_
      simp only [Act.put, pa]; try dsimp only [List.set]
      refine detL undef [boxE qe321] (h1 := fun Wx hSw => by (have hz := hSw.box (b := qe321) (o := objE) 0 rfl; refine useZ5 hz fun z0 z1 z2 z3 z4 y0 y1 y2 y3 y4 => ?_; go_simp; exact ⟨rfl, hSw.set5 0 rfl (.string ⟨#[]⟩) (.int .i64 0) (.int .i64 0) (.string ⟨#[]⟩) (.bool false)⟩)) (h2 := ?_)
      simp only [Act.put, pa]; try dsimp only [List.set]
      refine doneL (h := fun w504 S => ?_)
      replace S : Sep w (boxE qe321 :: boxN qe311 sn :: heapR h H :: boxV qva1 a :: boxV qvb1 b :: boxV q3 x0 :: []) w504 := by rw [Hb32_502.out] at S; exact S
      clear Hb32_502 Kb32_502 K32_4 K32_3 Cb32_502_0
      refine named (boxE qe321 :: boxN qe311 sn :: heapR h H :: boxV qva1 a :: boxV qvb1 b :: boxV q3 x0 :: [] : List Res) fun b33_504 hb33_504 => ?_
      have Hb33_504 := Lib.hid hb33_504
      have Kb33_504 : Hid (∀ W (Q : List Res), Sep w (Q ++ b33_504) W → True) := Lib.hid fun W Q T => by
        rw [hb33_504] at T
        trivial
      have Cb33_504_0 := baseC3 (w := w) (b := qva1) hb33_504 3 rfl
      have Cb33_504_1 := baseC3 (w := w) (b := qvb1) hb33_504 4 rfl
      have K33_3 : KC w b33_504 29 #[hpV h, agV a, agV b] (.tuple #[.bool ss, excN sm]) := Lib.hid fun W Q T => by
        rw [Hb33_504.out] at T ⊢
        exact (by have hh := sameOp_ok HL.out.2.2.1.G (by have := HN.out; omega) (Q.length + 2) T (atR rfl) a b; rw [HSAM.out] at hh; exact hh)
      replace S := Lib.hid S
      clear hb33_504
      go_upto_region 33 with fail
      have S1 : Sep w ([] ++ b33_504) (w504) := by rw [Hb33_504.out]; exact S.out
      clear S
      refine regionL (E := [emptyR]) (base := b33_504) (Sep.putE S1) ?_
      clear S1
      refine quietL ?_
      simp only [Act.put, pa]; try dsimp only [List.set]
      refine quietLC Cb33_504_0 ?_
      simp only [Act.put, pa]; try dsimp only [List.set]
      refine quietLC Cb33_504_1 ?_
      simp only [Act.put, pa]; try dsimp only [List.set]
      refine quietLK K33_3 ?_
      simp only [Act.put, pa]; try dsimp only [List.set]
      iterate 3 (refine quietL ?_; simp only [Act.put, pa]; try dsimp only [List.set])
      refine allocL 0 rfl (fun q => .pointer (some ⟨q, 0, none⟩)) (.cells #[.string ⟨#[]⟩, .int .i64 0, .int .i64 0, .string ⟨#[]⟩, .bool false] 38) (h1 := fun Wx => by go_simp) (h2 := fun qe331 => ?_)
      simp only [Act.put, pa]; try dsimp only [List.set]
      try simp only [List.set_cons_zero, List.set_cons_succ]
      refine quietL ?_
      simp only [Act.put, pa]; try dsimp only [List.set]
      refine detL undef [boxN qe331 sm] (h1 := fun Wx hSw => by (have hz := hSw.box (b := qe331) (o := objE) 0 rfl; refine useZ5 hz fun z0 z1 z2 z3 z4 y0 y1 y2 y3 y4 => ?_; go_simp; exact ⟨rfl, hSw.set5 0 rfl (.string sm) (.int .i64 0) (.int .i64 0) (.string ⟨#[]⟩) (.bool false)⟩)) (h2 := ?_)
      simp only [Act.put, pa]; try dsimp only [List.set]
      refine doneL (h := fun w506 S => ?_)
      replace S : Sep w (boxN qe331 sm :: boxE qe321 :: boxN qe311 sn :: heapR h H :: boxV qva1 a :: boxV qvb1 b :: boxV q3 x0 :: []) w506 := by rw [Hb33_504.out] at S; exact S
      clear Hb33_504 Kb33_504 K33_3 Cb33_504_0 Cb33_504_1
      refine named (boxN qe331 sm :: boxE qe321 :: boxN qe311 sn :: heapR h H :: boxV qva1 a :: boxV qvb1 b :: boxV q3 x0 :: [] : List Res) fun b34_506 hb34_506 => ?_
      have Hb34_506 := Lib.hid hb34_506
      have Kb34_506 : Hid (∀ W (Q : List Res), Sep w (Q ++ b34_506) W → True) := Lib.hid fun W Q T => by
        rw [hb34_506] at T
        trivial
      have Cb34_506_0 := baseC3 (w := w) (b := qva1) hb34_506 4 rfl
      have K34_3 : KC w b34_506 29 #[hpV h, agV a, agV a] (.tuple #[.bool true, excN ⟨#[]⟩]) := Lib.hid fun W Q T => by
        rw [Hb34_506.out] at T ⊢
        exact (by have hh := sameOp_ok HL.out.2.2.1.G (by have := HN.out; omega) (Q.length + 3) T (atR rfl) a a; rw [sameF_one (oneB_self a) 30] at hh; exact hh)
      replace S := Lib.hid S
      clear hb34_506
      go_upto_region 34 with fail
      have S1 : Sep w ([] ++ b34_506) (w506) := by rw [Hb34_506.out]; exact S.out
      clear S
      refine regionL (E := [emptyR]) (base := b34_506) (Sep.putE S1) ?_
      clear S1
      refine quietL ?_
      simp only [Act.put, pa]; try dsimp only [List.set]
      iterate 2 (refine quietLC Cb34_506_0 ?_; simp only [Act.put, pa]; try dsimp only [List.set])
      refine quietLK K34_3 ?_
      simp only [Act.put, pa]; try dsimp only [List.set]
      iterate 3 (refine quietL ?_; simp only [Act.put, pa]; try dsimp only [List.set])
      refine allocL 0 rfl (fun q => .pointer (some ⟨q, 0, none⟩)) (.cells #[.string ⟨#[]⟩, .int .i64 0, .int .i64 0, .string ⟨#[]⟩, .bool false] 38) (h1 := fun Wx => by go_simp) (h2 := fun qe341 => ?_)
      simp only [Act.put, pa]; try dsimp only [List.set]
      try simp only [List.set_cons_zero, List.set_cons_succ]
      refine quietL ?_
      simp only [Act.put, pa]; try dsimp only [List.set]
      refine detL undef [boxE qe341] (h1 := fun Wx hSw => by (have hz := hSw.box (b := qe341) (o := objE) 0 rfl; refine useZ5 hz fun z0 z1 z2 z3 z4 y0 y1 y2 y3 y4 => ?_; go_simp; exact ⟨rfl, hSw.set5 0 rfl (.string ⟨#[]⟩) (.int .i64 0) (.int .i64 0) (.string ⟨#[]⟩) (.bool false)⟩)) (h2 := ?_)
      simp only [Act.put, pa]; try dsimp only [List.set]
      refine doneL (h := fun w508 S => ?_)
      replace S : Sep w (boxE qe341 :: boxN qe331 sm :: boxE qe321 :: boxN qe311 sn :: heapR h H :: boxV qva1 a :: boxV qvb1 b :: boxV q3 x0 :: []) w508 := by rw [Hb34_506.out] at S; exact S
      clear Hb34_506 Kb34_506 K34_3 Cb34_506_0
      obtain ⟨m2, hm2⟩ : ∃ z : Int, z = 2 * (i : Int) := ⟨_, rfl⟩
      have HLm : Hid (H.last = m2) := Lib.hid (by rw [hm2]; exact HL.out.2.2.2)
      have HOK : Hid (okI (m2 + 1)) := Lib.hid (okI_of (by have := HMN.out; omega))
      clear hm2
      replace S : Sep w (heapR h H :: boxE qe341 :: boxN qe331 sm :: boxE qe321 :: boxN qe311 sn :: boxV qva1 a :: boxV qvb1 b :: boxV q3 x0 :: []) (w508) := by
        refine (show Sep w ([boxE qe341, boxN qe331 sm, boxE qe321, boxN qe311 sn, heapR h H, boxV qva1 a, boxV qvb1 b, boxV q3 x0] ++ []) _ from S).perm ?_
        exact List.Perm.append_right [] (perm_of (l := [boxE qe341, boxN qe331 sm, boxE qe321, boxN qe311 sn, heapR h H, boxV qva1 a, boxV qvb1 b, boxV q3 x0]) [4, 0, 1, 2, 3, 5, 6, 7] (by show (List.range' 0 8).Perm [4, 0, 1, 2, 3, 5, 6, 7]; decide) (by rfl))
      refine named (boxE qe341 :: boxN qe331 sm :: boxE qe321 :: boxN qe311 sn :: boxV qva1 a :: boxV qvb1 b :: boxV q3 x0 :: [] : List Res) fun b35_508 hb35_508 => ?_
      have Hb35_508 := Lib.hid hb35_508
      have Kb35_508 : Hid (∀ W (Q : List Res), Sep w (Q ++ b35_508) W → True) := Lib.hid fun W Q T => by
        rw [hb35_508] at T
        trivial
      replace S := Lib.hid S
      clear hb35_508
      go_upto_region 35 with fail
      have S1 : Sep w ([heapR h H] ++ b35_508) (w508) := by rw [Hb35_508.out]; exact S.out
      clear S
      refine regionL (E := [emptyR, heapR h H]) (base := b35_508) (Sep.putE S1) ?_
      clear S1
      refine quietL ?_
      simp only [Act.put, pa]; try dsimp only [List.set]
      refine detL (.agg #[.int .i64 4, .int .i64 (m2 + 1), .string ⟨#[]⟩]) [emptyR, heapR h (H.add listE)] (h1 := fun Wx hSw => by (go_simp; refine symCall ?_; exact made_e hSw 1 rfl HL.out.2.2.1 (by have := HN.out; omega) listE rfl rfl (by decide) HLm.out _ rfl _ rfl _ rfl)) (h2 := ?_)
      simp only [Act.put, pa]; try dsimp only [List.set]
      refine allocL 0 rfl (fun q => .pointer (some ⟨q, 0, none⟩)) (.cells #[.int .i64 0, .int .i64 0, .string ⟨#[]⟩] 29) (h1 := fun Wx => by go_simp) (h2 := fun qr252 => ?_)
      simp only [Act.put, pa]; try dsimp only [List.set]
      try simp only [List.set_cons_zero, List.set_cons_succ]
      refine detL undef [boxW qr252 4 (m2 + 1) ⟨#[]⟩, heapR h (H.add listE)] (h1 := fun Wx hSw => by (have hz := hSw.box (b := qr252) (o := objZ) 0 rfl; refine useZ3 hz fun z0 z1 z2 y0 y1 y2 => ?_; go_simp; exact ⟨rfl, hSw.set3 0 rfl (.int .i64 4) (.int .i64 (m2 + 1)) (.string ⟨#[]⟩)⟩)) (h2 := ?_)
      simp only [Act.put, pa]; try dsimp only [List.set]
      refine doneL (h := fun w510 S => ?_)
      replace S : Sep w (boxW qr252 4 (m2 + 1) ⟨#[]⟩ :: heapR h (H.add listE) :: boxE qe341 :: boxN qe331 sm :: boxE qe321 :: boxN qe311 sn :: boxV qva1 a :: boxV qvb1 b :: boxV q3 x0 :: []) w510 := by rw [Hb35_508.out] at S; exact S
      clear Hb35_508 Kb35_508
      obtain ⟨pr, hpr⟩ : ∃ z, z = (H.add listE).canReplace (V.ref (m2 + 1) HOK.out) 0 0 := ⟨_, rfl⟩
      have HPR := Lib.hid hpr
      clear hpr
      have HRG := Lib.hid (ring_of HL.out.2.2.1 HLm.out HOK.out)
      replace S : Sep w (heapR h (H.add listE) :: boxW qr252 4 (m2 + 1) ⟨#[]⟩ :: boxE qe341 :: boxN qe331 sm :: boxE qe321 :: boxN qe311 sn :: boxV qva1 a :: boxV qvb1 b :: boxV q3 x0 :: []) (w510) := by
        refine (show Sep w ([boxW qr252 4 (m2 + 1) ⟨#[]⟩, heapR h (H.add listE), boxE qe341, boxN qe331 sm, boxE qe321, boxN qe311 sn, boxV qva1 a, boxV qvb1 b, boxV q3 x0] ++ []) _ from S).perm ?_
        exact List.Perm.append_right [] (perm_of (l := [boxW qr252 4 (m2 + 1) ⟨#[]⟩, heapR h (H.add listE), boxE qe341, boxN qe331 sm, boxE qe321, boxN qe311 sn, boxV qva1 a, boxV qvb1 b, boxV q3 x0]) [1, 0, 2, 3, 4, 5, 6, 7, 8] (by show (List.range' 0 9).Perm [1, 0, 2, 3, 4, 5, 6, 7, 8]; decide) (by rfl))
      refine named (boxW qr252 4 (m2 + 1) ⟨#[]⟩ :: boxE qe341 :: boxN qe331 sm :: boxE qe321 :: boxN qe311 sn :: boxV qva1 a :: boxV qvb1 b :: boxV q3 x0 :: [] : List Res) fun b36_510 hb36_510 => ?_
      have Hb36_510 := Lib.hid hb36_510
      have Kb36_510 : Hid (∀ W (Q : List Res), Sep w (Q ++ b36_510) W → True) := Lib.hid fun W Q T => by
        rw [hb36_510] at T
        trivial
      have Cb36_510_0 := baseC3 (w := w) (b := qr252) hb36_510 0 rfl
      replace S := Lib.hid S
      clear hb36_510
      go_upto_region 36 with fail
      have S1 : Sep w ([heapR h (H.add listE)] ++ b36_510) (w510) := by rw [Hb36_510.out]; exact S.out
      clear S
      refine regionL (E := [emptyR, heapR h (H.add listE)]) (base := b36_510) (Sep.putE S1) ?_
      clear S1
      refine quietL ?_
      simp only [Act.put, pa]; try dsimp only [List.set]
      iterate 2 (refine quietLC Cb36_510_0 ?_; simp only [Act.put, pa]; try dsimp only [List.set])
      refine allocL 0 rfl (fun q => .slice (some ⟨q, 0, none⟩) 1 1) (.cells #[.int .i64 4, .int .i64 (m2 + 1), .string ⟨#[]⟩] 29) (h1 := fun Wx => by go_simp) (h2 := fun qRR1 => ?_)
      simp only [Act.put, pa]; try dsimp only [List.set]
      try simp only [List.set_cons_zero, List.set_cons_succ]
      refine detL (.bool pr) [boxW qRR1 4 (m2 + 1) ⟨#[]⟩, heapR h (ringM H (V.ref (m2 + 1) HOK.out))] (h1 := fun Wx hSw => by (go_simp; refine symCall ?_; have hh := hSw.replace 1 rfl (HL.out.2.2.1.add listE (by decide) rfl).G (V.ref (m2 + 1) HOK.out) 0 0 (.slice (some ⟨qRR1, 0, none⟩) 1 1) [(V.ref (m2 + 1) HOK.out)] (seesOneV (x := (V.ref (m2 + 1) HOK.out)) (hSw.box (b := qRR1) 0 rfl)).vals (by have := HN.out; show 6 * i + 0 + 2 + 1 ≤ 4000000; omega); rw [← HPR.out] at hh; exact hh)) (h2 := ?_)
      simp only [Act.put, pa]; try dsimp only [List.set]
      refine doneL (h := fun w512 S => ?_)
      replace S : Sep w (boxW qRR1 4 (m2 + 1) ⟨#[]⟩ :: heapR h (ringM H (V.ref (m2 + 1) HOK.out)) :: boxW qr252 4 (m2 + 1) ⟨#[]⟩ :: boxE qe341 :: boxN qe331 sm :: boxE qe321 :: boxN qe311 sn :: boxV qva1 a :: boxV qvb1 b :: boxV q3 x0 :: []) w512 := by rw [Hb36_510.out] at S; exact S
      clear Hb36_510 Kb36_510 Cb36_510_0
      refine named (boxW qRR1 4 (m2 + 1) ⟨#[]⟩ :: heapR h (ringM H (V.ref (m2 + 1) HOK.out)) :: boxW qr252 4 (m2 + 1) ⟨#[]⟩ :: boxE qe341 :: boxN qe331 sm :: boxE qe321 :: boxN qe311 sn :: boxV qva1 a :: boxV qvb1 b :: boxV q3 x0 :: [] : List Res) fun b37_512 hb37_512 => ?_
      have Hb37_512 := Lib.hid hb37_512
      have Kb37_512 : Hid (∀ W (Q : List Res), Sep w (Q ++ b37_512) W → True) := Lib.hid fun W Q T => by
        rw [hb37_512] at T
        trivial
      have Cb37_512_0 := baseC3 (w := w) (b := qr252) hb37_512 2 rfl
      have K37_2 : KC w b37_512 25 #[hpV h, .agg #[.int .i64 4, .int .i64 (m2 + 1), .string ⟨#[]⟩]] (.tuple #[.string ⟨#[]⟩, excN recursionError]) := Lib.hid fun W Q T => by
        rw [Hb37_512.out] at T ⊢
        exact (repr_ring T (Q.length + 1) (atR rfl) HRG.out.2 (by have := HN.out; omega) (V.ref (m2 + 1) HOK.out) HRG.out.1 rfl rfl rfl)
      replace S := Lib.hid S
      clear hb37_512
      go_upto_region 37 with fail
      have S1 : Sep w ([] ++ b37_512) (w512) := by rw [Hb37_512.out]; exact S.out
      clear S
      refine regionL (E := [emptyR]) (base := b37_512) (Sep.putE S1) ?_
      clear S1
      refine quietL ?_
      simp only [Act.put, pa]; try dsimp only [List.set]
      refine quietLC Cb37_512_0 ?_
      simp only [Act.put, pa]; try dsimp only [List.set]
      refine quietLK K37_2 ?_
      simp only [Act.put, pa]; try dsimp only [List.set]
      iterate 3 (refine quietL ?_; simp only [Act.put, pa]; try dsimp only [List.set])
      refine allocL 0 rfl (fun q => .pointer (some ⟨q, 0, none⟩)) (.cells #[.string ⟨#[]⟩, .int .i64 0, .int .i64 0, .string ⟨#[]⟩, .bool false] 38) (h1 := fun Wx => by go_simp) (h2 := fun qe371 => ?_)
      simp only [Act.put, pa]; try dsimp only [List.set]
      try simp only [List.set_cons_zero, List.set_cons_succ]
      refine quietL ?_
      simp only [Act.put, pa]; try dsimp only [List.set]
      refine detL undef [boxN qe371 recursionError] (h1 := fun Wx hSw => by (have hz := hSw.box (b := qe371) (o := objE) 0 rfl; refine useZ5 hz fun z0 z1 z2 z3 z4 y0 y1 y2 y3 y4 => ?_; go_simp; exact ⟨rfl, hSw.set5 0 rfl (.string recursionError) (.int .i64 0) (.int .i64 0) (.string ⟨#[]⟩) (.bool false)⟩)) (h2 := ?_)
      simp only [Act.put, pa]; try dsimp only [List.set]
      refine doneL (h := fun w514 S => ?_)
      replace S : Sep w (boxN qe371 recursionError :: boxW qRR1 4 (m2 + 1) ⟨#[]⟩ :: heapR h (ringM H (V.ref (m2 + 1) HOK.out)) :: boxW qr252 4 (m2 + 1) ⟨#[]⟩ :: boxE qe341 :: boxN qe331 sm :: boxE qe321 :: boxN qe311 sn :: boxV qva1 a :: boxV qvb1 b :: boxV q3 x0 :: []) w514 := by rw [Hb37_512.out] at S; exact S
      clear Hb37_512 Kb37_512 K37_2 Cb37_512_0
      refine named (boxN qe371 recursionError :: boxW qRR1 4 (m2 + 1) ⟨#[]⟩ :: heapR h (ringM H (V.ref (m2 + 1) HOK.out)) :: boxW qr252 4 (m2 + 1) ⟨#[]⟩ :: boxE qe341 :: boxN qe331 sm :: boxE qe321 :: boxN qe311 sn :: boxV qva1 a :: boxV qvb1 b :: boxV q3 x0 :: [] : List Res) fun b38_514 hb38_514 => ?_
      have Hb38_514 := Lib.hid hb38_514
      have Kb38_514 : Hid (∀ W (Q : List Res), Sep w (Q ++ b38_514) W → True) := Lib.hid fun W Q T => by
        rw [hb38_514] at T
        trivial
      have Cb38_514_0 := baseC3 (w := w) (b := qr252) hb38_514 3 rfl
      have K38_3 : KC w b38_514 29 #[hpV h, .agg #[.int .i64 4, .int .i64 (m2 + 1), .string ⟨#[]⟩], .agg #[.int .i64 4, .int .i64 (m2 + 1), .string ⟨#[]⟩]] (.tuple #[.bool true, excN ⟨#[]⟩]) := Lib.hid fun W Q T => by
        rw [Hb38_514.out] at T ⊢
        exact (by have hh := sameOp_ok HRG.out.2.G (by have := HN.out; omega) (Q.length + 2) T (atR rfl) (V.ref (m2 + 1) HOK.out) (V.ref (m2 + 1) HOK.out); rw [sameF_one (oneB_self (V.ref (m2 + 1) HOK.out)) 30] at hh; exact hh)
      replace S := Lib.hid S
      clear hb38_514
      go_upto_region 38 with fail
      have S1 : Sep w ([] ++ b38_514) (w514) := by rw [Hb38_514.out]; exact S.out
      clear S
      refine regionL (E := [emptyR]) (base := b38_514) (Sep.putE S1) ?_
      clear S1
      refine quietL ?_
      simp only [Act.put, pa]; try dsimp only [List.set]
      iterate 2 (refine quietLC Cb38_514_0 ?_; simp only [Act.put, pa]; try dsimp only [List.set])
      refine quietLK K38_3 ?_
      simp only [Act.put, pa]; try dsimp only [List.set]
      iterate 3 (refine quietL ?_; simp only [Act.put, pa]; try dsimp only [List.set])
      refine allocL 0 rfl (fun q => .pointer (some ⟨q, 0, none⟩)) (.cells #[.string ⟨#[]⟩, .int .i64 0, .int .i64 0, .string ⟨#[]⟩, .bool false] 38) (h1 := fun Wx => by go_simp) (h2 := fun qe381 => ?_)
      simp only [Act.put, pa]; try dsimp only [List.set]
      try simp only [List.set_cons_zero, List.set_cons_succ]
      refine quietL ?_
      simp only [Act.put, pa]; try dsimp only [List.set]
      refine detL undef [boxE qe381] (h1 := fun Wx hSw => by (have hz := hSw.box (b := qe381) (o := objE) 0 rfl; refine useZ5 hz fun z0 z1 z2 z3 z4 y0 y1 y2 y3 y4 => ?_; go_simp; exact ⟨rfl, hSw.set5 0 rfl (.string ⟨#[]⟩) (.int .i64 0) (.int .i64 0) (.string ⟨#[]⟩) (.bool false)⟩)) (h2 := ?_)
      simp only [Act.put, pa]; try dsimp only [List.set]
      refine doneL (h := fun w516 S => ?_)
      replace S : Sep w (boxE qe381 :: boxN qe371 recursionError :: boxW qRR1 4 (m2 + 1) ⟨#[]⟩ :: heapR h (ringM H (V.ref (m2 + 1) HOK.out)) :: boxW qr252 4 (m2 + 1) ⟨#[]⟩ :: boxE qe341 :: boxN qe331 sm :: boxE qe321 :: boxN qe311 sn :: boxV qva1 a :: boxV qvb1 b :: boxV q3 x0 :: []) w516 := by rw [Hb38_514.out] at S; exact S
      clear Hb38_514 Kb38_514 K38_3 Cb38_514_0
      refine named (boxE qe381 :: boxN qe371 recursionError :: boxW qRR1 4 (m2 + 1) ⟨#[]⟩ :: heapR h (ringM H (V.ref (m2 + 1) HOK.out)) :: boxW qr252 4 (m2 + 1) ⟨#[]⟩ :: boxE qe341 :: boxN qe331 sm :: boxE qe321 :: boxN qe311 sn :: boxV qva1 a :: boxV qvb1 b :: boxV q3 x0 :: [] : List Res) fun b39_516 hb39_516 => ?_
      have Hb39_516 := Lib.hid hb39_516
      have Kb39_516 : Hid (∀ W (Q : List Res), Sep w (Q ++ b39_516) W → True) := Lib.hid fun W Q T => by
        rw [hb39_516] at T
        trivial
      have Cb39_516_0 := baseC5 (w := w) (b := qe341) hb39_516 5 rfl
      have Cb39_516_1 := baseC5 (w := w) (b := qe371) hb39_516 1 rfl
      have Cb39_516_2 := baseC5 (w := w) (b := qe381) hb39_516 0 rfl
      have K39_4 : KC w b39_516 19 #[excZ] (.bool true) := Lib.hid fun W Q T => by
        exact (none_z W).mono fun e W' ⟨e1, e2⟩ => ⟨e1, T.later e2⟩
      have K39_9 : KC w b39_516 21 #[excN recursionError, .string recursionError] (.bool true) := Lib.hid fun W Q T => by
        exact (raised_deep W).mono fun e W' ⟨e1, e2⟩ => ⟨e1, T.later e2⟩
      have K39_18 : KC w b39_516 19 #[excZ] (.bool true) := Lib.hid fun W Q T => by
        exact (none_z W).mono fun e W' ⟨e1, e2⟩ => ⟨e1, T.later e2⟩
      replace S := Lib.hid S
      clear hb39_516
      go_upto_region 39 with fail
      have S1 : Sep w ([] ++ b39_516) (w516) := by rw [Hb39_516.out]; exact S.out
      clear S
      refine regionL (E := []) (base := b39_516) S1 ?_
      clear S1
      iterate 3 (refine quietL ?_; simp only [Act.put, pa]; try dsimp only [List.set])
      refine quietLC Cb39_516_0 ?_
      simp only [Act.put, pa]; try dsimp only [List.set]
      refine quietLK K39_4 ?_
      simp only [Act.put, pa]; try dsimp only [List.set]
      iterate 3 (refine quietL ?_; simp only [Act.put, pa]; try dsimp only [List.set])
      refine quietLC Cb39_516_1 ?_
      simp only [Act.put, pa]; try dsimp only [List.set]
      refine quietLK K39_9 ?_
      simp only [Act.put, pa]; try dsimp only [List.set]
      iterate 7 (refine quietL ?_; simp only [Act.put, pa]; try dsimp only [List.set])
      refine quietLC Cb39_516_2 ?_
      simp only [Act.put, pa]; try dsimp only [List.set]
      refine quietLK K39_18 ?_
      simp only [Act.put, pa]; try dsimp only [List.set]
      iterate 2 (refine quietL ?_; simp only [Act.put, pa]; try dsimp only [List.set])
      refine doneL (h := fun w518 S => ?_)
      replace S : Sep w (boxE qe381 :: boxN qe371 recursionError :: boxW qRR1 4 (m2 + 1) ⟨#[]⟩ :: heapR h (ringM H (V.ref (m2 + 1) HOK.out)) :: boxW qr252 4 (m2 + 1) ⟨#[]⟩ :: boxE qe341 :: boxN qe331 sm :: boxE qe321 :: boxN qe311 sn :: boxV qva1 a :: boxV qvb1 b :: boxV q3 x0 :: []) w518 := by rw [Hb39_516.out] at S; exact S
      clear Hb39_516 Kb39_516 K39_4 K39_9 K39_18 Cb39_516_0 Cb39_516_1 Cb39_516_2
      rcases HDEEP.out with ⟨h30, e1, e2, e3, e4⟩ | ⟨h30, e1, e2, e3, e4⟩
      ·
        subst e1 e2 e3 e4
        have h3i : (30 : Int) < i := by omega
        refine named (boxE qe381 :: boxN qe371 recursionError :: boxW qRR1 4 (m2 + 1) ⟨#[]⟩ :: heapR h (ringM H (V.ref (m2 + 1) HOK.out)) :: boxW qr252 4 (m2 + 1) ⟨#[]⟩ :: boxE qe341 :: boxN qe331 recursionError :: boxE qe321 :: boxN qe311 recursionError :: boxV qva1 a :: boxV qvb1 b :: boxV q3 x0 :: [] : List Res) fun b41_700 hb41_700 => ?_
        have Hb41_700 := Lib.hid hb41_700
        have Kb41_700 : Hid (∀ W (Q : List Res), Sep w (Q ++ b41_700) W → True) := Lib.hid fun W Q T => by
          rw [hb41_700] at T
          trivial
        replace S := Lib.hid S
        clear hb41_700
        go_upto_region 41 with fail
        have S1 : Sep w ([] ++ b41_700) (w518) := by rw [Hb41_700.out]; exact S.out
        clear S
        refine regionL (E := []) (base := b41_700) S1 ?_
        clear S1
        iterate 2 (refine quietL ?_; simp only [Act.put, pa]; try dsimp only [List.set])
        refine doneL (h := fun w702 S => ?_)
        replace S : Sep w (boxE qe381 :: boxN qe371 recursionError :: boxW qRR1 4 (m2 + 1) ⟨#[]⟩ :: heapR h (ringM H (V.ref (m2 + 1) HOK.out)) :: boxW qr252 4 (m2 + 1) ⟨#[]⟩ :: boxE qe341 :: boxN qe331 recursionError :: boxE qe321 :: boxN qe311 recursionError :: boxV qva1 a :: boxV qvb1 b :: boxV q3 x0 :: []) w702 := by rw [Hb41_700.out] at S; exact S
        clear Hb41_700 Kb41_700
        refine named (boxE qe381 :: boxN qe371 recursionError :: boxW qRR1 4 (m2 + 1) ⟨#[]⟩ :: heapR h (ringM H (V.ref (m2 + 1) HOK.out)) :: boxW qr252 4 (m2 + 1) ⟨#[]⟩ :: boxE qe341 :: boxN qe331 recursionError :: boxE qe321 :: boxN qe311 recursionError :: boxV qva1 a :: boxV qvb1 b :: boxV q3 x0 :: [] : List Res) fun b42_702 hb42_702 => ?_
        have Hb42_702 := Lib.hid hb42_702
        have Kb42_702 : Hid (∀ W (Q : List Res), Sep w (Q ++ b42_702) W → True) := Lib.hid fun W Q T => by
          rw [hb42_702] at T
          trivial
        have Cb42_702_0 := baseC5 (w := w) (b := qe311) hb42_702 8 rfl
        have Cb42_702_1 := baseC5 (w := w) (b := qe331) hb42_702 6 rfl
        have K42_1 : KC w b42_702 21 #[excN recursionError, .string recursionError] (.bool true) := Lib.hid fun W Q T => by
          exact (raised_deep W).mono fun e W' ⟨e1, e2⟩ => ⟨e1, T.later e2⟩
        have K42_4 : KC w b42_702 21 #[excN recursionError, .string recursionError] (.bool true) := Lib.hid fun W Q T => by
          exact (raised_deep W).mono fun e W' ⟨e1, e2⟩ => ⟨e1, T.later e2⟩
        replace S := Lib.hid S
        clear hb42_702
        go_upto_region 42 with fail
        have S1 : Sep w ([] ++ b42_702) (w702) := by rw [Hb42_702.out]; exact S.out
        clear S
        refine regionL (E := []) (base := b42_702) S1 ?_
        clear S1
        refine quietLC Cb42_702_0 ?_
        simp only [Act.put, pa]; try dsimp only [List.set]
        refine quietLK K42_1 ?_
        simp only [Act.put, pa]; try dsimp only [List.set]
        refine quietL ?_
        simp only [Act.put, pa]; try dsimp only [List.set]
        refine quietLC Cb42_702_1 ?_
        simp only [Act.put, pa]; try dsimp only [List.set]
        refine quietLK K42_4 ?_
        simp only [Act.put, pa]; try dsimp only [List.set]
        iterate 10 (refine quietL ?_; simp only [Act.put, pa]; try dsimp only [List.set])
        refine doneL (h := fun w704 S => ?_)
        replace S : Sep w (boxE qe381 :: boxN qe371 recursionError :: boxW qRR1 4 (m2 + 1) ⟨#[]⟩ :: heapR h (ringM H (V.ref (m2 + 1) HOK.out)) :: boxW qr252 4 (m2 + 1) ⟨#[]⟩ :: boxE qe341 :: boxN qe331 recursionError :: boxE qe321 :: boxN qe311 recursionError :: boxV qva1 a :: boxV qvb1 b :: boxV q3 x0 :: []) w704 := by rw [Hb42_702.out] at S; exact S
        clear Hb42_702 Kb42_702 K42_1 K42_4 Cb42_702_0 Cb42_702_1
        replace S := Lib.hid S.below
        go_wp2
        go_ret
        exact ⟨rfl, by rw [← HQ3.out]; exact S.out⟩
      ·
        subst e2 e3 e4
        have h3i : ¬ (30 : Int) < i := by omega
        have hsz : (st.size : Int) = (tx : Int) + (TXx.size : Int) := by rw [HTXX.out, e1]; show ((tx + lx.length : Nat) : Int) = (tx : Int) + ((lx.toArray.size : Nat) : Int); simp
        have hww : IntKind.i64.wrap ((tx : Int) + (TXx.size : Int)) = (tx : Int) + (TXx.size : Int) := IntWalk.i64_in _ (by have e : TXx.size = lx.length := (by rw [HTXX.out]; rfl); have := HXL.out; have := HMN.out; have := HL.out.1; omega)
        clear e1
        refine named (boxE qe381 :: boxN qe371 recursionError :: boxW qRR1 4 (m2 + 1) ⟨#[]⟩ :: heapR h (ringM H (V.ref (m2 + 1) HOK.out)) :: boxW qr252 4 (m2 + 1) ⟨#[]⟩ :: boxE qe341 :: boxE qe331 :: boxE qe321 :: boxE qe311 :: boxV qva1 a :: boxV qvb1 b :: boxV q3 x0 :: [] : List Res) fun b41_750 hb41_750 => ?_
        have Hb41_750 := Lib.hid hb41_750
        have Kb41_750 : Hid (∀ W (Q : List Res), Sep w (Q ++ b41_750) W → True) := Lib.hid fun W Q T => by
          rw [hb41_750] at T
          trivial
        replace S := Lib.hid S
        clear hb41_750
        go_upto_region 41 with fail
        have S1 : Sep w ([] ++ b41_750) (w518) := by rw [Hb41_750.out]; exact S.out
        clear S
        refine regionL (E := []) (base := b41_750) S1 ?_
        clear S1
        iterate 2 (refine quietL ?_; simp only [Act.put, pa]; try dsimp only [List.set])
        refine doneL (h := fun w752 S => ?_)
        replace S : Sep w (boxE qe381 :: boxN qe371 recursionError :: boxW qRR1 4 (m2 + 1) ⟨#[]⟩ :: heapR h (ringM H (V.ref (m2 + 1) HOK.out)) :: boxW qr252 4 (m2 + 1) ⟨#[]⟩ :: boxE qe341 :: boxE qe331 :: boxE qe321 :: boxE qe311 :: boxV qva1 a :: boxV qvb1 b :: boxV q3 x0 :: []) w752 := by rw [Hb41_750.out] at S; exact S
        clear Hb41_750 Kb41_750
        refine named (boxE qe381 :: boxN qe371 recursionError :: boxW qRR1 4 (m2 + 1) ⟨#[]⟩ :: heapR h (ringM H (V.ref (m2 + 1) HOK.out)) :: boxW qr252 4 (m2 + 1) ⟨#[]⟩ :: boxE qe341 :: boxE qe331 :: boxE qe321 :: boxE qe311 :: boxV qva1 a :: boxV qvb1 b :: boxV q3 x0 :: [] : List Res) fun b43_752 hb43_752 => ?_
        have Hb43_752 := Lib.hid hb43_752
        have Kb43_752 : Hid (∀ W (Q : List Res), Sep w (Q ++ b43_752) W → True) := Lib.hid fun W Q T => by
          rw [hb43_752] at T
          trivial
        have Cb43_752_0 := baseC5 (w := w) (b := qe311) hb43_752 8 rfl
        have Cb43_752_1 := baseC5 (w := w) (b := qe331) hb43_752 6 rfl
        have K43_1 : KC w b43_752 19 #[excZ] (.bool true) := Lib.hid fun W Q T => by
          exact (none_z W).mono fun e W' ⟨e1, e2⟩ => ⟨e1, T.later e2⟩
        have K43_4 : KC w b43_752 19 #[excZ] (.bool true) := Lib.hid fun W Q T => by
          exact (none_z W).mono fun e W' ⟨e1, e2⟩ => ⟨e1, T.later e2⟩
        replace S := Lib.hid S
        clear hb43_752
        go_upto_region 43 with fail
        have S1 : Sep w ([] ++ b43_752) (w752) := by rw [Hb43_752.out]; exact S.out
        clear S
        refine regionL (E := []) (base := b43_752) S1 ?_
        clear S1
        refine quietLC Cb43_752_0 ?_
        simp only [Act.put, pa]; try dsimp only [List.set]
        refine quietLK K43_1 ?_
        simp only [Act.put, pa]; try dsimp only [List.set]
        refine quietL ?_
        simp only [Act.put, pa]; try dsimp only [List.set]
        refine quietLC Cb43_752_1 ?_
        simp only [Act.put, pa]; try dsimp only [List.set]
        refine quietLK K43_4 ?_
        simp only [Act.put, pa]; try dsimp only [List.set]
        iterate 14 (refine quietL ?_; simp only [Act.put, pa]; try dsimp only [List.set])
        refine doneL (h := fun w754 S => ?_)
        replace S : Sep w (boxE qe381 :: boxN qe371 recursionError :: boxW qRR1 4 (m2 + 1) ⟨#[]⟩ :: heapR h (ringM H (V.ref (m2 + 1) HOK.out)) :: boxW qr252 4 (m2 + 1) ⟨#[]⟩ :: boxE qe341 :: boxE qe331 :: boxE qe321 :: boxE qe311 :: boxV qva1 a :: boxV qvb1 b :: boxV q3 x0 :: []) w754 := by rw [Hb43_752.out] at S; exact S
        clear Hb43_752 Kb43_752 K43_1 K43_4 Cb43_752_0 Cb43_752_1
        replace S := Lib.hid S.below
        go_wp2
        go_ret
        exact ⟨rfl, by rw [← HQ3.out]; exact S.out⟩
set_option maxRecDepth 100000 in
theorem lifted (os : Os) (started : os.Started) (H : Type) (enc : TypeId × Value → H) :
    ReturnsInHanded {} Tryz.checked os 9 .any (Rows.operateDeepSpec.pre6 enc Tryz.prog Tryz.f9 Rows.operateDeepRow.domain false) (Rows.operateDeepSpec.post enc Tryz.prog Tryz.f9 false true false false) := by
  refine law_lift (C := Tryz.checked) own started (by kernel_rfl) Tryz.func9
    (ChangeSpec.witness6 (enc := enc) (C := Tryz.checked) false ⟨#[], #[.int .u8 0, .slice none 0 0, .agg #[.int .i64 0, .int .i64 0, .string ⟨#[]⟩]], []⟩ 8 (by kernel_rfl) (by kernel_rfl) (by kernel_rfl) (by kernel_rfl))
    (by kernel_rfl) (by kernel_rfl) rfl (fun ds h => by
      match ds, h with
      | [d1, d2, d3], _ => exact ⟨rfl, rfl, rfl⟩) rfl Tryz.underlying4 ?_
  intro W base args ds ps hval hA hlt hwt hsh
  rw [Tryz.params9] at hA hval
  obtain ⟨v0, vs0, d0, ds0, p0, q0, hargs, rfl, rfl, h0, r0⟩ := trodAll_cons hA
  obtain ⟨v1, vs1, d1, ds1, p1, q1, rfl, rfl, rfl, h1, r1⟩ := trodAll_cons r0
  obtain ⟨v2, vs2, d2, ds2, p2, q2, rfl, rfl, rfl, h2, r2⟩ := trodAll_cons r1
  obtain ⟨rfl, rfl, rfl⟩ := trodAll_nil r2
  obtain rfl : args = #[v0, v1, v2] := by cases args; simp_all
  obtain ⟨a0, rfl, rfl, rfl, w0⟩ := open_int Tryz.underlying5 (hval 0 5 v0 rfl rfl) h0
  obtain ⟨x1, len1, cap1, rfl⟩ := okWide_slice Tryz.underlying47 (hval 1 47 v1 rfl rfl)
  obtain ⟨fuel1, hf1⟩ := h1
  obtain ⟨l1, s1⟩ := open_bytes (v := .slice x1 len1 cap1) hf1
  obtain ⟨cs2, rfl, hsz2⟩ := okWide_struct Tryz.underlying29 (hval 2 29 v2 rfl rfl)
  obtain ⟨fuel2, hf2⟩ := h2
  obtain ⟨x2, e2⟩ := val_of_trod (cs := cs2.toList) hf2
  obtain rfl : cs2 = x2.cells.toArray := by rw [← e2]
  -- WALK
  exact walk W _ w0 _ l1 s1 x2
theorem proved : Rows.OperateDeepSaid :=
  OpenClaim.holds_of_wide 9 Tryz.f9 rfl rfl rfl rfl rfl rfl rfl ⟨rfl, rfl, rfl, rfl, rfl⟩ rfl rfl rfl rfl rfl (by kernel_rfl) Tryz.func9 (by kernel_rfl)
    (of_decide_eq_true (by kernel_rfl)) (by unfold Func.isWrapper; first | (rw [if_pos (by decide +kernel)]; kernel_rfl) | (rw [if_neg (by decide +kernel)]; exact ⟨rfl, rfl⟩))
    (fun os started H enc _ => lifted os started H enc)
#print axioms proved
end Go.Proofs.YtellmfimmghidaaGreat.operateDeep
