/- ch 16: what the reference tells, plainly. -/
import Derived.Test.YtijlebhoapdfnaaGreatTellA
namespace Go.Proofs.YtijlebhoapdfnaaGreat
set_option linter.unusedSimpArgs false
open Go.RowKit
set_option linter.unusedVariables false
theorem TelM.out_le {t : TelM} (h : t.out.length ≤ 65536) (s : List UInt8) : (t.say s).out.length ≤ 65536 := by
 unfold TelM.say
 split
 ·
  split
  ·
   exact h
  ·
   simp; omega
 ·
  exact h
/-- What the reference tells: a row of one ends by two sayings. -/
def HeapM.tellG (H : HeapM) : Nat → V → TelM → TelM
 | 0, v, t => H.tellT v t ⟨t.out, .deep⟩
 | f + 1, v, t => H.tellT v t
   (if H.kind v = 1 then rowF [91] [93] ((H.items v).map fun x => H.tellG f x) t
   else if H.kind v = 2 then (if (H.items v).length = 1 then ((partsF true ((H.items v).map fun x => H.tellG f x) (t.say [40])).say [44]).say [41] else (partsF true ((H.items v).map fun x => H.tellG f x) (t.say [40])).say [41])
   else rowF [123] [125] ((H.pairs v).map fun p => fun t => H.tellG f ((H.get v p.1).getD V.zero) ((H.tellG f p.1 t).say [58, 32])) t)
theorem HeapM.tellG_fell {H : HeapM} {f : Nat} {v : V} {t : TelM} (h : t.fell ≠ .no) : H.tellG f v t = t := by
 cases f <;> exact HeapM.tellT_fell h
theorem partsF_le : ∀ (l : List (TelM → TelM)) (first : Bool) {t : TelM}, t.out.length ≤ 65536 → (∀ p ∈ l, ∀ t : TelM, t.out.length ≤ 65536 → (p t).out.length ≤ 65536) → (partsF first l t).out.length ≤ 65536
 | [], _, t, h, _ => h
 | p :: l, first, t, h, hp => by
  unfold partsF
  refine partsF_le l false (hp p (by simp) _ ?_) fun q hq => hp q (by simp [hq])
  split
  ·
   exact h
  ·
   exact TelM.out_le h _
theorem HeapM.tellT_le {H : HeapM} {v : V} {t r : TelM} (h : t.out.length ≤ 65536) (hr : r.out.length ≤ 65536) : (H.tellT v t r).out.length ≤ 65536 := by
 unfold HeapM.tellT
 split
 ·
  split
  ·
   exact TelM.out_le h _
  ·
   exact hr
 ·
  exact h
theorem HeapM.tellG_le {H : HeapM} : ∀ (f : Nat) (v : V) {t : TelM}, t.out.length ≤ 65536 → (H.tellG f v t).out.length ≤ 65536
 | 0, v, t, h => H.tellT_le h h
 | f + 1, v, t, h => by
  have h1 : ∀ s, (partsF true ((H.items v).map fun x => H.tellG f x) (t.say s)).out.length ≤ 65536 := fun s => partsF_le _ _ (TelM.out_le h _) fun p hp t ht => by
   obtain ⟨x, -, rfl⟩ := List.mem_map.1 hp
   exact HeapM.tellG_le f x ht
  refine H.tellT_le h ?_
  split
  ·
   exact TelM.out_le (h1 _) _
  ·
   split
   ·
    split
    ·
     exact TelM.out_le (TelM.out_le (h1 _) _) _
    ·
     exact TelM.out_le (h1 _) _
   ·
    refine TelM.out_le (partsF_le _ _ (TelM.out_le h _) fun p hp t ht => ?_) _
    obtain ⟨x, -, rfl⟩ := List.mem_map.1 hp
    exact HeapM.tellG_le f _ (TelM.out_le (HeapM.tellG_le f _ ht) _)
/-- What is still to be told comes to the same. -/
theorem parts_stop {PS : List (TelM → TelM)} {k : Nat} {t TE : TelM} (hp : ∀ p ∈ PS, ∀ t : TelM, t.fell ≠ .no → p t = t) (h : partsF (decide (k = 0)) (PS.drop k) t = TE) (hs : PS.length ≤ k ∨ t.fell ≠ .no) : t = TE := by
 rcases hs with hs | hs
 ·
  rw [List.drop_of_length_le hs] at h; exact h
 ·
  rw [partsF_fell _ _ hs fun p hq => hp p (List.mem_of_mem_drop hq)] at h; exact h
theorem parts_go {PS : List (TelM → TelM)} {k : Nat} {t TE : TelM} {p : TelM → TelM} (h : partsF (decide (k = 0)) (PS.drop k) t = TE) (hp : PS[k]? = some p) : partsF (decide (k + 1 = 0)) (PS.drop (k + 1)) (p (if k = 0 then t else t.say [44, 32])) = TE := by
 obtain ⟨h1, h2⟩ := List.getElem?_eq_some_iff.1 hp
 rw [List.drop_eq_getElem_cons h1, h2] at h
 unfold partsF at h
 rw [decide_eq_false (by omega)]
 simpa using h
/-- As far as what is answered goes, the same. -/
def Sim (a b : TelM) : Prop := a.fell = b.fell ∧ (a.fell = .no → a.out = b.out)
theorem Sim.refl (a : TelM) : Sim a a := ⟨rfl, fun _ => rfl⟩
theorem Sim.say {a b : TelM} (h : Sim a b) (s : List UInt8) : Sim (a.say s) (b.say s) := by
 obtain ⟨o, f⟩ := a
 obtain ⟨o2, f2⟩ := b
 obtain ⟨h1, h2⟩ := h
 simp only at h1 h2
 subst h1
 cases f with
 | no => obtain rfl := h2 rfl; exact Sim.refl _
 | memory => exact ⟨rfl, fun e => by cases e⟩
 | deep => exact ⟨rfl, fun e => by cases e⟩
/-- Two sayings for one. -/
theorem TelM.say_two (t : TelM) (a b : List UInt8) : Sim (t.say (a ++ b)) ((t.say a).say b) := by
 obtain ⟨o, f⟩ := t
 cases f with
 | memory => exact ⟨rfl, fun e => by cases e⟩
 | deep => exact ⟨rfl, fun e => by cases e⟩
 | no =>
  by_cases h1 : o.length + a.length > 65536
  ·
   have e1 : TelM.say ⟨o, .no⟩ a = ⟨o, .memory⟩ := by unfold TelM.say; simp only; rw [if_pos h1]
   have e2 : TelM.say ⟨o, .no⟩ (a ++ b) = ⟨o, .memory⟩ := by unfold TelM.say; simp only; rw [if_pos (by rw [List.length_append]; omega)]
   rw [e1, e2]; exact ⟨rfl, fun e => by cases e⟩
  ·
   have e1 : TelM.say ⟨o, .no⟩ a = ⟨o ++ a, .no⟩ := by unfold TelM.say; simp only; rw [if_neg h1]
   rw [e1]
   by_cases h2 : (o ++ a).length + b.length > 65536
   ·
    have e2 : TelM.say ⟨o, .no⟩ (a ++ b) = ⟨o, .memory⟩ := by unfold TelM.say; simp only; rw [if_pos (by rw [List.length_append] at h2 ⊢; omega)]
    have e3 : TelM.say ⟨o ++ a, .no⟩ b = ⟨o ++ a, .memory⟩ := by unfold TelM.say; simp only; rw [if_pos h2]
    rw [e2, e3]; exact ⟨rfl, fun e => by cases e⟩
   ·
    have e2 : TelM.say ⟨o, .no⟩ (a ++ b) = ⟨o ++ (a ++ b), .no⟩ := by unfold TelM.say; simp only; rw [if_neg (by rw [List.length_append] at h2 ⊢; omega)]
    have e3 : TelM.say ⟨o ++ a, .no⟩ b = ⟨o ++ a ++ b, .no⟩ := by unfold TelM.say; simp only; rw [if_neg h2]
    rw [e2, e3]; exact ⟨rfl, fun _ => by simp⟩
theorem Sim.trans {a b c : TelM} (h : Sim a b) (k : Sim b c) : Sim a c := ⟨h.1.trans k.1, fun e => (h.2 e).trans (k.2 (h.1 ▸ e))⟩
theorem Sim.parts {α : Type} {p q : α → TelM → TelM} (hpq : ∀ x a b, Sim a b → Sim (p x a) (q x b)) : ∀ (l : List α) (first : Bool) {a b : TelM}, Sim a b → Sim (partsF first (l.map p) a) (partsF first (l.map q) b)
 | [], _, _, _, h => h
 | x :: l, first, a, b, h => by
  simp only [List.map_cons]
  unfold partsF
  refine Sim.parts hpq l false (hpq x _ _ ?_)
  split
  ·
   exact h
  ·
   exact h.say _
theorem Sim.tellT {H : HeapM} {v : V} {a b r s : TelM} (h : Sim a b) (hr : Sim r s) : Sim (H.tellT v a r) (H.tellT v b s) := by
 obtain ⟨o, f⟩ := a
 obtain ⟨o2, f2⟩ := b
 obtain ⟨h1, h2⟩ := h
 simp only at h1 h2
 subst h1
 unfold HeapM.tellT
 cases f with
 | no =>
  obtain rfl := h2 rfl
  simp only
  split
  ·
   exact Sim.refl _
  ·
   exact hr
 | memory => exact ⟨rfl, fun e => by cases e⟩
 | deep => exact ⟨rfl, fun e => by cases e⟩
theorem HeapM.tell_sim {H : HeapM} : ∀ (f : Nat) (v : V) (a b : TelM), Sim a b → Sim (H.tellF f v a) (H.tellG f v b)
 | 0, v, a, b, h => Sim.tellT h ⟨rfl, fun e => by cases e⟩
 | f + 1, v, a, b, h => by
  refine Sim.tellT h ?_
  by_cases k1 : H.kind v = 1
  ·
   rw [if_pos k1, if_pos k1]
   exact (Sim.parts (fun x a b h => HeapM.tell_sim f x a b h) _ true (h.say _)).say _
  ·
   rw [if_neg k1, if_neg k1]
   by_cases k2 : H.kind v = 2
   ·
    rw [if_pos k2, if_pos k2]
    have hp := Sim.parts (p := fun x => H.tellF f x) (q := fun x => H.tellG f x) (fun x a b h => HeapM.tell_sim f x a b h) (H.items v) true (h.say [40])
    by_cases hl : (H.items v).length = 1
    ·
     rw [if_pos hl, if_pos hl]
     exact (hp.say ([44] ++ [41])).trans (TelM.say_two _ [44] [41])
    ·
     rw [if_neg hl, if_neg hl]
     exact hp.say _
   ·
    rw [if_neg k2, if_neg k2]
    exact (Sim.parts (p := fun (p : V × V) t => H.tellF f ((H.get v p.1).getD V.zero) ((H.tellF f p.1 t).say [58, 32])) (q := fun (p : V × V) t => H.tellG f ((H.get v p.1).getD V.zero) ((H.tellG f p.1 t).say [58, 32])) (fun x a b h => HeapM.tell_sim f _ _ _ ((HeapM.tell_sim f _ _ _ h).say _)) _ true (h.say _)).say _
theorem Sim.repr {a b : TelM} (h : Sim a b) : reprV a = reprV b := by
 obtain ⟨o, f⟩ := a
 obtain ⟨o2, f2⟩ := b
 obtain ⟨h1, h2⟩ := h
 simp only at h1 h2
 subst h1
 cases f with
 | no => obtain rfl := h2 rfl; rfl
 | memory => rfl
 | deep => rfl
end Go.Proofs.YtijlebhoapdfnaaGreat
