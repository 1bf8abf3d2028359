/- Numbers without bounds, as rows of digits to base 65536 (plain). -/
import Derived.Test.YtijlebhoapdfnaaGreatBase
namespace Go.Proofs.YtijlebhoapdfnaaGreat
set_option linter.unusedSimpArgs false
open Go.RowKit
set_option linter.unusedVariables false
def valD : List Nat → Nat
 | [] => 0
 | d :: l => d + 65536 * valD l
def Digs (l : List Nat) : Prop := ∀ d ∈ l, d < 65536
def digs (n : Nat) : List Nat := if h : n = 0 then [] else n % 65536 :: digs (n / 65536)
theorem digs_zero : digs 0 = [] := by rw [digs, dif_pos rfl]
theorem digs_pos {n : Nat} (h : n ≠ 0) : digs n = n % 65536 :: digs (n / 65536) := by rw [digs, dif_neg h]
theorem digs_val (n : Nat) : valD (digs n) = n := by
 induction n using Nat.strongRecOn with
 | _ n ih =>
  by_cases h : n = 0
  ·
   subst h; rw [digs_zero]; rfl
  ·
   rw [digs_pos h]
   show n % 65536 + 65536 * valD (digs (n / 65536)) = n
   rw [ih (n / 65536) (by omega)]
   omega
theorem digs_ok (n : Nat) : Digs (digs n) := by
 induction n using Nat.strongRecOn with
 | _ n ih =>
  by_cases h : n = 0
  ·
   subst h; rw [digs_zero]; intro d hd; cases hd
  ·
   rw [digs_pos h]
   intro d hd
   rcases List.mem_cons.1 hd with e | e
   ·
    omega
   ·
    exact ih (n / 65536) (by omega) d e
theorem Digs.tail {d : Nat} {l : List Nat} (h : Digs (d :: l)) : Digs l := fun x hx => h x (List.mem_cons_of_mem _ hx)
theorem Digs.head {d : Nat} {l : List Nat} (h : Digs (d :: l)) : d < 65536 := h d (List.mem_cons_self ..)
theorem Digs.append {a b : List Nat} (ha : Digs a) (hb : Digs b) : Digs (a ++ b) := fun d hd => (List.mem_append.1 hd).elim (ha d) (hb d)
theorem Digs.take {a : List Nat} (ha : Digs a) (k : Nat) : Digs (a.take k) := fun d hd => ha d (List.mem_of_mem_take hd)
theorem valD_append (a b : List Nat) : valD (a ++ b) = valD a + 65536 ^ a.length * valD b := by
 induction a with
 | nil => simp [valD]
 | cons d a ih =>
  rw [List.cons_append, valD, ih, valD, List.length_cons, Nat.pow_succ]
  rw [Nat.mul_add, Nat.mul_comm (65536 ^ a.length) 65536, ← Nat.mul_assoc]
  omega
theorem valD_lt {a : List Nat} (h : Digs a) : valD a < 65536 ^ a.length := by
 induction a with
 | nil => simp [valD]
 | cons d a ih =>
  have h1 := ih h.tail
  have h2 := h.head
  rw [valD, List.length_cons, Nat.pow_succ]
  omega
theorem valD_zero {a : List Nat} (h : ∀ d ∈ a, d = 0) : valD a = 0 := by
 induction a with
 | nil => rfl
 | cons d a ih =>
  rw [valD, ih fun x hx => h x (List.mem_cons_of_mem _ hx), h d (List.mem_cons_self ..)]
/-- No nought at the end. -/
def Whole (l : List Nat) : Prop := ∀ d, l.getLast? = some d → d ≠ 0
theorem whole_digs {l : List Nat} (h : Digs l) (hw : Whole l) : l = digs (valD l) := by
 induction l with
 | nil => exact digs_zero.symm
 | cons d l ih =>
  have h2 := h.head
  by_cases hl : l = []
  ·
   subst hl
   have : d ≠ 0 := hw d rfl
   have e : valD [d] = d := rfl
   rw [e, digs_pos this, Nat.mod_eq_of_lt h2, show d / 65536 = 0 by omega, digs_zero]
  ·
   have hw' : Whole l := fun x hx => hw x (by rw [List.getLast?_cons]; rw [hx]; rfl)
   have e := ih h.tail hw'
   have hv : valD l ≠ 0 := fun e0 => hl (by rw [e, e0]; exact digs_zero)
   rw [valD, digs_pos (by omega), show (d + 65536 * valD l) % 65536 = d by omega, show (d + 65536 * valD l) / 65536 = valD l by omega, ← e]
theorem trim_digs {l : List Nat} (h : Digs l) {n : Nat} (hn : n ≤ l.length) (hz : ∀ i d, l[i]? = some d → n ≤ i → d = 0) (hw : n = 0 ∨ ∀ d, l[n - 1]? = some d → d ≠ 0) : l.take n = digs (valD l) := by
 have e1 : valD l = valD (l.take n) := by
  have e := valD_append (l.take n) (l.drop n)
  rw [List.take_append_drop] at e
  rw [e, valD_zero (a := l.drop n) (fun d hd => by
   obtain ⟨i, hi⟩ := List.getElem?_of_mem hd
   rw [List.getElem?_drop] at hi
   exact hz _ d hi (by omega))]
  simp
 rw [e1]
 refine whole_digs (h.take n) fun d hd => ?_
 rcases hw with e | hw
 ·
  subst e; simp at hd
 ·
  rw [List.getLast?_eq_getElem?, List.length_take, Nat.min_eq_left hn] at hd
  by_cases hn0 : n = 0
  ·
   subst hn0; simp at hd
  ·
   rw [List.getElem?_take, if_pos (by omega)] at hd
   exact hw d hd
/-- A digit, nought beyond. -/
def digD (l : List Nat) (i : Nat) : Nat := (l[i]?).getD 0
theorem digD_lt {l : List Nat} (h : Digs l) (i : Nat) : digD l i < 65536 := by
 unfold digD
 cases e : l[i]? with
 | none => decide
 | some d => exact h d (List.mem_of_getElem? e)
theorem valD_take_succ (l : List Nat) (i : Nat) : valD (l.take (i + 1)) = valD (l.take i) + digD l i * 65536 ^ i := by
 rw [List.take_add_one]
 cases e : l[i]? with
 | none => simp [digD, e]
 | some d =>
  have hl : (l.take i).length = i := by rw [List.length_take]; have := (List.getElem?_eq_some_iff.1 e).1; omega
  rw [valD_append, hl]
  simp [digD, e, valD, Nat.mul_comm]
theorem digD_beyond {l : List Nat} {j : Nat} (h : l.length ≤ j) : digD l j = 0 := by unfold digD; rw [List.getElem?_eq_none h]; rfl
/-- What add does, place by place. -/
def plusC (a b : List Nat) : Nat → Nat
 | 0 => 0
 | i + 1 => (digD a i + digD b i + plusC a b i) / 65536
def plusO (a b : List Nat) (n : Nat) : List Nat := (List.range n).map fun i => (digD a i + digD b i + plusC a b i) % 65536
theorem plusC_le {a b : List Nat} (ha : Digs a) (hb : Digs b) : ∀ i, plusC a b i ≤ 1
 | 0 => Nat.zero_le _
 | i + 1 => by
  have h1 := digD_lt ha i
  have h2 := digD_lt hb i
  have h3 := plusC_le ha hb i
  unfold plusC; omega
theorem plusO_next (a b : List Nat) (n : Nat) : plusO a b (n + 1) = plusO a b n ++ [(digD a n + digD b n + plusC a b n) % 65536] := by
 unfold plusO; rw [List.range_succ, List.map_append]; rfl
theorem plusO_len (a b : List Nat) (n : Nat) : (plusO a b n).length = n := by simp [plusO]
theorem plusO_ok (a b : List Nat) (n : Nat) : Digs (plusO a b n) := fun d hd => by
 obtain ⟨i, _, rfl⟩ := List.mem_map.1 hd; omega
theorem plusO_val (a b : List Nat) : ∀ n, valD (plusO a b n) + plusC a b n * 65536 ^ n = valD (a.take n) + valD (b.take n)
 | 0 => by simp [plusO, plusC, valD]
 | n + 1 => by
  have ih := plusO_val a b n
  rw [plusO_next, valD_append, plusO_len, valD_take_succ, valD_take_succ, Nat.pow_succ]
  show valD (plusO a b n) + 65536 ^ n * ((digD a n + digD b n + plusC a b n) % 65536 + 65536 * 0) + (digD a n + digD b n + plusC a b n) / 65536 * (65536 ^ n * 65536) = _
  generalize 65536 ^ n = P at *
  have e : (digD a n + digD b n + plusC a b n) = 65536 * ((digD a n + digD b n + plusC a b n) / 65536) + (digD a n + digD b n + plusC a b n) % 65536 := (Nat.div_add_mod _ _).symm
  generalize (digD a n + digD b n + plusC a b n) / 65536 = q at *
  generalize (digD a n + digD b n + plusC a b n) % 65536 = r at *
  have e2 : (digD a n + digD b n + plusC a b n) * P = (65536 * q + r) * P := by rw [e]
  rw [Nat.add_mul, Nat.add_mul, Nat.add_mul] at e2
  rw [Nat.mul_zero, Nat.add_zero, Nat.mul_comm P r, show q * (P * 65536) = 65536 * q * P by rw [Nat.mul_comm P 65536, ← Nat.mul_assoc, Nat.mul_comm q 65536]]
  omega
theorem plus_val {a b : List Nat} (ha : Digs a) (hb : Digs b) {n : Nat} (hn : n = max a.length b.length + 1) : valD (plusO a b n) = valD a + valD b := by
 have h := plusO_val a b n
 have e1 : a.take n = a := List.take_of_length_le (by omega)
 have e2 : b.take n = b := List.take_of_length_le (by omega)
 have hc : plusC a b n = 0 := by
  subst hn
  unfold plusC
  rw [digD_beyond (show a.length ≤ max a.length b.length by omega), digD_beyond (show b.length ≤ max a.length b.length by omega)]
  have := plusC_le ha hb (max a.length b.length)
  omega
 rw [hc, e1, e2] at h
 omega
/-- What less does, place by place. -/
def lessC (a b : List Nat) : Nat → Nat
 | 0 => 0
 | i + 1 => if digD a i < digD b i + lessC a b i then 1 else 0
def lessO (a b : List Nat) (n : Nat) : List Nat := (List.range n).map fun i => (digD a i + 65536 - digD b i - lessC a b i) % 65536
theorem lessC_le (a b : List Nat) : ∀ i, lessC a b i ≤ 1
 | 0 => Nat.zero_le _
 | i + 1 => by unfold lessC; split <;> decide
theorem lessO_next (a b : List Nat) (n : Nat) : lessO a b (n + 1) = lessO a b n ++ [(digD a n + 65536 - digD b n - lessC a b n) % 65536] := by
 unfold lessO; rw [List.range_succ, List.map_append]; rfl
theorem lessO_len (a b : List Nat) (n : Nat) : (lessO a b n).length = n := by simp [lessO]
theorem lessO_ok (a b : List Nat) (n : Nat) : Digs (lessO a b n) := fun d hd => by
 obtain ⟨i, _, rfl⟩ := List.mem_map.1 hd; omega
theorem lessO_val {a b : List Nat} (ha : Digs a) (hb : Digs b) : ∀ n, valD (lessO a b n) + valD (b.take n) = valD (a.take n) + lessC a b n * 65536 ^ n
 | 0 => by simp [lessO, lessC, valD]
 | n + 1 => by
  have ih := lessO_val ha hb n
  rw [lessO_next, valD_append, lessO_len, valD_take_succ, valD_take_succ, Nat.pow_succ]
  show valD (lessO a b n) + 65536 ^ n * ((digD a n + 65536 - digD b n - lessC a b n) % 65536 + 65536 * 0) + (valD (b.take n) + digD b n * 65536 ^ n) = _
  have h1 := digD_lt ha n
  have h2 := digD_lt hb n
  have h3 := lessC_le a b n
  have hC : lessC a b (n + 1) = if digD a n < digD b n + lessC a b n then 1 else 0 := rfl
  rw [hC]
  generalize 65536 ^ n = P at *
  generalize digD a n = x at *
  generalize digD b n = y at *
  generalize lessC a b n = c at *
  rw [Nat.mul_zero, Nat.add_zero]
  by_cases h : x < y + c
  ·
   rw [if_pos h, show (x + 65536 - y - c) % 65536 = x + 65536 - y - c by omega]
   have e : (x + 65536 - y - c) + y + c = x + 65536 := by omega
   have e2 := congrArg (· * P) e
   simp only [Nat.add_mul] at e2
   rw [Nat.mul_comm P (x + 65536 - y - c), Nat.mul_comm P 65536, Nat.one_mul]
   omega
  ·
   rw [if_neg h, show (x + 65536 - y - c) % 65536 = x - y - c by omega]
   have e : (x - y - c) + y + c = x := by omega
   have e2 := congrArg (· * P) e
   simp only [Nat.add_mul] at e2
   rw [Nat.mul_comm P (x - y - c), Nat.zero_mul]
   omega
theorem less_val {a b : List Nat} (ha : Digs a) (hb : Digs b) (hl : valD b ≤ valD a) : valD (lessO a b a.length) = valD a - valD b := by
 have h := lessO_val ha hb a.length
 rw [List.take_length] at h
 have hd : valD b = valD (b.take a.length) + 65536 ^ (b.take a.length).length * valD (b.drop a.length) := by
  have := valD_append (b.take a.length) (b.drop a.length)
  rwa [List.take_append_drop] at this
 have h1 := valD_lt (lessO_ok a b a.length)
 rw [lessO_len] at h1
 have h3 := lessC_le a b a.length
 have h4 := valD_lt ha
 by_cases hb0 : valD (b.drop a.length) = 0
 ·
  rw [hb0, Nat.mul_zero, Nat.add_zero] at hd
  rw [← hd] at h
  by_cases hc : lessC a b a.length = 0
  ·
   rw [hc, Nat.zero_mul] at h; omega
  ·
   have : lessC a b a.length = 1 := by omega
   rw [this, Nat.one_mul] at h; omega
 ·
  exfalso
  have hlen : (b.take a.length).length = a.length := by
   rw [List.length_take]
   by_cases h' : a.length ≤ b.length
   ·
    omega
   ·
    rw [List.drop_eq_nil_of_le (by omega)] at hb0; exact absurd rfl hb0
  rw [hlen] at hd
  have : 65536 ^ a.length * 1 ≤ 65536 ^ a.length * valD (b.drop a.length) := Nat.mul_le_mul_left _ (by omega)
  omega
end Go.Proofs.YtijlebhoapdfnaaGreat
