/- ch 16: the reference's numbers: rows of digits. -/
import Derived.Test.YtijlebhoapdfnaaGreatRegS
import Derived.Test.YtijlebhoapdfnaaGreatRows3
import Derived.IntWalk
import Derived.Test.YtijlebhoapdfnaaGreatNumD
/- Products, quotients and texts of such rows (plain). -/
namespace Go.Proofs.YtijlebhoapdfnaaGreat
set_option linter.unusedSimpArgs false
open Go.RowKit
set_option linter.unusedVariables false
theorem Digs.set {l : List Nat} (h : Digs l) (j : Nat) {d : Nat} (hd : d < 65536) : Digs (l.set j d) := fun x hx => by
 rcases List.mem_or_eq_of_mem_set hx with e | e
 ·
  exact h x e
 ·
  rw [e]; exact hd
/-- Within a row's product with one digit. -/
structure MulIn (a b : List Nat) (i k : Nat) (out : List Nat) (c : Nat) : Prop where
 ok : Digs out
 len : out.length = a.length + b.length + 1
 hc : c < 65536
 val : valD out + c * 65536 ^ (i + k) = valD (a.take i) * valD b + digD a i * valD (b.take k) * 65536 ^ i
 high : ∀ j, i + k ≤ j → i + b.length ≤ j → digD out j = 0
theorem MulIn.last {a b : List Nat} {i k : Nat} {out : List Nat} (M : MulIn a b i k out 0) (hk : b.length ≤ k) : valD out = valD (a.take (i + 1)) * valD b := by
 have := M.val
 rw [List.take_of_length_le hk, Nat.zero_mul, Nat.add_zero] at this
 rw [this, valD_take_succ, Nat.add_mul, Nat.mul_right_comm]
/-- A digit within the whole. -/
theorem digD_div : ∀ (l : List Nat) (j : Nat), Digs l → valD l / 65536 ^ j % 65536 = digD l j
 | [], j, _ => by simp [valD, digD]
 | x :: l, 0, h => by
  have := h.head
  have e : digD (x :: l) 0 = x := rfl
  rw [e, Nat.pow_zero, Nat.div_one, valD]; omega
 | x :: l, j + 1, h => by
  have ih := digD_div l j h.tail
  have h1 := h.head
  have e : digD (x :: l) (j + 1) = digD l j := by simp [digD]
  rw [e, ← ih, Nat.pow_succ, Nat.mul_comm (65536 ^ j) 65536, ← Nat.div_div_eq_div_mul, valD, show (x + 65536 * valD l) / 65536 = valD l by omega]
theorem bit_mod (X t : Nat) (ht : t < 16) : X % 65536 / 2 ^ t % 2 = X / 2 ^ t % 2 := by
 match t, ht with
 | 0, _ => omega
 | 1, _ => omega
 | 2, _ => omega
 | 3, _ => omega
 | 4, _ => omega
 | 5, _ => omega
 | 6, _ => omega
 | 7, _ => omega
 | 8, _ => omega
 | 9, _ => omega
 | 10, _ => omega
 | 11, _ => omega
 | 12, _ => omega
 | 13, _ => omega
 | 14, _ => omega
 | 15, _ => omega
 | k + 16, h => omega
theorem bit_of {l : List Nat} (h : Digs l) (i : Nat) : digD l (i / 16) / 2 ^ (i % 16) % 2 = valD l / 2 ^ i % 2 := by
 rw [← digD_div l (i / 16) h, bit_mod _ _ (Nat.mod_lt _ (by decide)), Nat.div_div_eq_div_mul, show (65536 : Nat) = 2 ^ 16 by decide, ← Nat.pow_mul, ← Nat.pow_add, Nat.div_add_mod]
/-- One bit more of a quotient. -/
theorem parts_step {A B i q r : Nat} (hB : 0 < B) (hq : q = A / 2 ^ (i + 1) / B) (hr : r = A / 2 ^ (i + 1) % B) :
  A / 2 ^ i / B = (if B ≤ r + r + A / 2 ^ i % 2 then q + q + 1 else q + q) ∧ A / 2 ^ i % B = (if B ≤ r + r + A / 2 ^ i % 2 then r + r + A / 2 ^ i % 2 - B else r + r + A / 2 ^ i % 2) := by
 have e : A / 2 ^ (i + 1) = A / 2 ^ i / 2 := by rw [Nat.pow_succ, Nat.div_div_eq_div_mul]
 rw [e] at hq hr
 generalize A / 2 ^ i = n at *
 have h1 := Nat.div_add_mod (n / 2) B
 rw [← hq, ← hr] at h1
 have h2 : r < B := by rw [hr]; exact Nat.mod_lt _ hB
 have h3 : n = 2 * (n / 2) + n % 2 := by omega
 have h4 : n % 2 < 2 := Nat.mod_lt _ (by decide)
 by_cases h : B ≤ r + r + n % 2
 ·
  rw [if_pos h, if_pos h]
  have e : n = B * (q + q + 1) + (r + r + n % 2 - B) := by
   rw [Nat.mul_add, Nat.mul_add, Nat.mul_one]; omega
  have hl : r + r + n % 2 - B < B := by omega
  generalize r + r + n % 2 - B = t at *
  rw [e]
  exact ⟨by rw [Nat.mul_add_div hB, Nat.div_eq_of_lt hl, Nat.add_zero], by rw [Nat.mul_add_mod, Nat.mod_eq_of_lt hl]⟩
 ·
  rw [if_neg h, if_neg h]
  have e : n = B * (q + q) + (r + r + n % 2) := by
   rw [Nat.mul_add]; omega
  have hl : r + r + n % 2 < B := by omega
  generalize r + r + n % 2 = t at *
  rw [e]
  exact ⟨by rw [Nat.mul_add_div hB, Nat.div_eq_of_lt hl, Nat.add_zero], by rw [Nat.mul_add_mod, Nat.mod_eq_of_lt hl]⟩
end Go.Proofs.YtijlebhoapdfnaaGreat
set_option maxRecDepth 100000
set_option maxHeartbeats 12800000
namespace Go.Proofs.YtijlebhoapdfnaaGreat
set_option linter.unusedSimpArgs false
open Go.RowKit
set_option linter.unusedVariables false
def natC (n : Nat) : List Value := [.int .i64 (n : Int)]
abbrev dR (v : Value) (l : List Nat) : Res := rowR 3 1 natC v l
/-- A row of digits. -/
def SeesD (W : World) (sv : Value) (l : List Nat) : Prop :=
 ∃ a c, sv = .slice a l.length c ∧ l.length ≤ c ∧ c ≤ maxLen ∧ (l = [] ∨ ∃ g o, a = some ⟨g, o, none⟩ ∧ ∀ (i d : Nat), l[i]? = some d → W.cell? ⟨g, o + i, none⟩ = some (.int .i64 (d : Int)))
theorem SeesD.below {W W' : World} {sv : Value} {l : List Nat} (h : SeesD W sv l) (hb : Below W.heap.size W W') : SeesD W' sv l := by
 obtain ⟨a, c, h1, h2, h3, h4⟩ := h
 refine ⟨a, c, h1, h2, h3, ?_⟩
 rcases h4 with h4 | ⟨g, o, h5, h6⟩
 ·
  exact .inl h4
 ·
  exact .inr ⟨g, o, h5, fun i d hd => cellBelow (h6 i d hd) hb⟩
theorem SeesD.of_row {W : World} {sv : Value} {l : List Nat} (h : slIs W 3 1 natC sv l) : SeesD W sv l := by
 obtain ⟨a, c, h1, h2, h3, h4⟩ := h.seesR (f := natC) (m := 1) (fun _ => rfl)
 refine ⟨a, c, h1, h2, h3, ?_⟩
 rcases h4 with h4 | ⟨g, o, h5, h6⟩
 ·
  exact .inl h4
 ·
  refine .inr ⟨g, o, h5, fun i d hd => ?_⟩
  have := h6 i d hd 0 _ rfl
  rwa [Nat.mul_one, Nat.add_zero] at this
theorem SeesD.rows {W : World} {sv : Value} {l : List Nat} (h : SeesD W sv l) : SeesR natC 1 W sv l := by
 obtain ⟨a, c, h1, h2, h3, h4⟩ := h
 refine ⟨a, c, h1, h2, h3, ?_⟩
 rcases h4 with h4 | ⟨g, o, h5, h6⟩
 ·
  exact .inl h4
 ·
  refine .inr ⟨g, o, h5, fun i d hd j u hu => ?_⟩
  match j, hu with
  | 0, hu =>
   simp [natC] at hu; subst hu
   rw [Nat.mul_one, Nat.add_zero]; exact h6 i d hd
  | j + 1, hu => simp [natC] at hu
theorem info_intD : (Tryz.prog.info? 3).map (fun i => (i.zero, i.size, i.bytes)) = some (some (.int .i64 0), 1, 8) := by kernel_rfl
section
variable {w W : World} {Rs : List Res}
theorem Sep.seesD (S : Sep w Rs W) {sv : Value} {l : List Nat} (j : Nat) (hj : Rs[j]? = some (dR sv l)) : SeesD W sv l := SeesD.of_row (S.row j hj)
theorem Sep.appendD (S : Sep w Rs W) (j : Nat) {a : Option Addr} {n c : Nat} {xs : List Nat} (hj : Rs[j]? = some (dR (.slice a n c) xs)) (hn : xs.length = n) {sv : Value} {ys : List Nat} (hs : SeesD W sv ys) (m : Nat) (hm : n + ys.length = m) (hlen : m ≤ 9000000) :
  ∃ va vc w2, (Builtin.append_ #[165, 165] 165 #[.slice a n c, sv]).run Tryz.prog W = .ok (.slice va m vc) w2 ∧ Sep w (Rs.set j (dR (.slice va m vc) (xs ++ ys))) w2 := by
 subst hn hm
 exact run_append_rows (f := natC) 165 3 165 Tryz.underlying165 _ _ info_intD rfl (by decide) (by decide) (fun _ => rfl) (fun p u hu => by simp [natC] at hu; rcases hu with rfl; rfl) S j hj _ ys hs.rows hlen
theorem rdigit_ok (W : World) (sv : Value) (l : List Nat) (hs : SeesD W sv l) (i : Nat) : Calls Tryz.prog 180 #[sv, .int .i64 i] W fun e W' => e = .returned (.int .i64 (digD l i : Nat)) ∧ W' = W := by
 obtain ⟨a, c, rfl, h1, h2, h3⟩ := hs
 by_cases hlt : i < l.length
 ·
  obtain ⟨d, hd⟩ : ∃ d, l[i]? = some d := ⟨l[i], by simp [hlt]⟩
  obtain ⟨g, o, rfl, hc⟩ : ∃ g o, a = some ⟨g, o, none⟩ ∧ ∀ (i d : Nat), l[i]? = some d → W.cell? ⟨g, o + i, none⟩ = some (.int .i64 (d : Int)) := by
   rcases h3 with h | h
   ·
    subst h; simp at hlt
   ·
    exact h
  have c1 := hc i d hd
  have hlti : (i : Int) < l.length := by omega
  have hv : digD l i = d := by unfold digD; rw [hd]; rfl
  rw [hv]
  clear h1 h2 h3 hc hd hv hlt
  go_enter Tryz.func180, Tryz.ntmps180
  go_wp2
  go_ret
  exact ⟨rfl, rfl⟩
 ·
  have hv : digD l i = 0 := digD_beyond (by omega)
  have hlti : ¬ (i : Int) < l.length := by omega
  rw [hv]
  clear h1 h2 h3 hv hlt
  go_enter Tryz.func180, Tryz.ntmps180
  go_wp2
  go_ret
  exact ⟨rfl, rfl⟩
/-- The difference at the highest place where they differ. -/
def compZ (a b : List Nat) : Nat → Int
 | 0 => 0
 | i + 1 => if digD a i = digD b i then compZ a b i else (digD a i : Int) - digD b i
theorem compZ_same {a b : List Nat} (hh : ∀ j, digD a j = digD b j) : ∀ n, compZ a b n = 0
 | 0 => rfl
 | n + 1 => by unfold compZ; rw [if_pos (hh n)]; exact compZ_same hh n
theorem compZ_at {a b : List Nat} {i : Nat} (he : digD a i ≠ digD b i) (hh : ∀ j, i < j → digD a j = digD b j) : ∀ n, i < n → compZ a b n = (digD a i : Int) - digD b i
 | 0, h => by omega
 | n + 1, h => by
  unfold compZ
  by_cases hn : i = n
  ·
   subst hn; rw [if_neg he]
  ·
   rw [if_pos (hh n (by omega))]; exact compZ_at he hh n (by omega)
theorem compZ_ge {a b : List Nat} (da : Digs a) (db : Digs b) : ∀ n, (0 ≤ compZ a b n ↔ valD (b.take n) ≤ valD (a.take n))
 | 0 => by simp [compZ, valD]
 | n + 1 => by
  unfold compZ
  rw [valD_take_succ, valD_take_succ]
  by_cases h : digD a n = digD b n
  ·
   rw [if_pos h, h]
   have := compZ_ge da db n
   constructor
   ·
    intro hh; have := this.1 hh; omega
   ·
    intro hh; exact this.2 (by omega)
  ·
   rw [if_neg h]
   have h1 : valD (a.take n) < 65536 ^ n := Nat.lt_of_lt_of_le (valD_lt (da.take n)) (Nat.pow_le_pow_right (by decide) (by rw [List.length_take]; omega))
   have h2 : valD (b.take n) < 65536 ^ n := Nat.lt_of_lt_of_le (valD_lt (db.take n)) (Nat.pow_le_pow_right (by decide) (by rw [List.length_take]; omega))
   rcases Nat.lt_or_gt_of_ne h with h3 | h3
   ·
    have : (digD a n + 1) * 65536 ^ n ≤ digD b n * 65536 ^ n := Nat.mul_le_mul_right _ h3
    rw [Nat.add_mul, Nat.one_mul] at this
    constructor
    ·
     intro hh; omega
    ·
     intro hh; omega
   ·
    have : (digD b n + 1) * 65536 ^ n ≤ digD a n * 65536 ^ n := Nat.mul_le_mul_right _ h3
    rw [Nat.add_mul, Nat.one_mul] at this
    constructor
    ·
     intro hh; omega
    ·
     intro hh; omega
theorem SeesD.len {W : World} {sv : Value} {l : List Nat} (h : SeesD W sv l) : (l.length : Int) ≤ 9223372036854775807 := by
 obtain ⟨a, c, h1, h2, h3, h4⟩ := h
 unfold maxLen at h3; omega
/-- The digits alone, compared. -/
theorem rcomp_ok (W : World) (sa sb : Value) (a b : List Nat) (ha : SeesD W sa a) (hb : SeesD W sb b) (da : Digs a) (db : Digs b) : Calls Tryz.prog 178 #[sa, sb] W fun e W' => e = .returned (.int .i64 (compZ a b (max a.length b.length))) ∧ W' = W := by
 have hla := ha.len
 have hlb := hb.len
 have HA := Lib.hid ha
 have HB := Lib.hid hb
 obtain ⟨aa, ac, rfl, -, -, -⟩ := ha
 obtain ⟨ba, bc, rfl, -, -, -⟩ := hb
 obtain ⟨m, hm⟩ : ∃ m, m = max a.length b.length := ⟨_, rfl⟩
 have hm1 : max (a.length : Int) (b.length : Int) = (m : Int) := by omega
 have hw1 : IntKind.i64.wrap ((m : Int) - 1) = (m : Int) - 1 := IntWalk.i64_in _ (by omega)
 have hm2 : (if (a.length : Int) < (b.length : Int) then (b.length : Int) else (a.length : Int)) = (m : Int) := by split <;> omega
 have hml : (m : Int) ≤ 9223372036854775807 := by omega
 obtain ⟨cz, hcz⟩ : ∃ z, compZ a b (max a.length b.length) = z := ⟨_, rfl⟩
 rw [hcz]
 have HCZ := Lib.hid hcz
 clear hcz
 have HM := Lib.hid hm
 have DA := Lib.hid da
 have DB := Lib.hid db
 clear hm da db
 go_enter Tryz.func178, Tryz.ntmps178
 go_wp2
 clear hm1 hm2 hw1
 go_loopw [5] (fun s5 wr => ∃ k : Nat, k ≤ m ∧ s5 = .int .i64 ((k : Int) - 1) ∧ Hid (∀ j, k ≤ j → digD a j = digD b j) ∧ wr = W) (fun s5 _ => (intOf s5 + 1).toNat)
 case atStart => exact ⟨m, Nat.le_refl _, by first | rfl | trivial, Lib.hid fun j hj => by rw [digD_beyond (l := a) (by have := HM.out; omega), digD_beyond (l := b) (by have := HM.out; omega)], by first | rfl | trivial⟩
 case round =>
  obtain ⟨k, hk, rfl, HE, rfl⟩ := hrel
  by_cases h0 : k = 0
  ·
   subst h0
   have HV : Hid (cz = 0) := Lib.hid (by rw [← HCZ.out]; exact compZ_same (fun j => HE.out j (Nat.zero_le _)) _)
   have e0 : (((0 : Nat) : Int) - 1) = -1 := rfl
   simp only [e0]
   clear hk HE
   go_wp2
   go_ret
   exact ⟨by rw [HV.out]; rfl, rfl⟩
  ·
   obtain ⟨i, rfl⟩ : ∃ i, k = i + 1 := ⟨k - 1, by omega⟩
   have e0 : (((i + 1 : Nat) : Int) - 1) = (i : Int) := by omega
   simp only [e0]
   have hge : (0 : Int) ≤ i := by omega
   have hge2 : ((i : Int) ≥ 0) = True := by simp
   obtain ⟨x, hx⟩ : ∃ x, digD a i = x := ⟨_, rfl⟩
   obtain ⟨y, hy⟩ : ∃ y, digD b i = y := ⟨_, rfl⟩
   have hx6 : x < 65536 := by rw [← hx]; exact digD_lt DA.out i
   have hy6 : y < 65536 := by rw [← hy]; exact digD_lt DB.out i
   have MA : Hid (Calls Tryz.prog 180 #[.slice aa a.length ac, .int .i64 i] wr fun e W' => e = .returned (.int .i64 (x : Nat)) ∧ W' = wr) := Lib.hid (by rw [← hx]; exact rdigit_ok wr _ a HA.out i)
   have MB : Hid (Calls Tryz.prog 180 #[.slice ba b.length bc, .int .i64 i] wr fun e W' => e = .returned (.int .i64 (y : Nat)) ∧ W' = wr) := Lib.hid (by rw [← hy]; exact rdigit_ok wr _ b HB.out i)
   have HX := Lib.hid hx
   have HY := Lib.hid hy
   have HK := Lib.hid hk
   have HL := Lib.hid hml
   have HL1 := Lib.hid (And.intro hla hlb)
   clear hx hy h0 hk e0 hml hla hlb
   by_cases he : x = y
   ·
    have hne : ((x : Int) != (y : Int)) = false := by simp [he]
    have HE2 := Lib.hid he
    clear he
    go_wp2_with fail
    refine MA.out.mono ?_
    rintro e w1 ⟨rfl, rfl⟩
    go_wp2_with fail
    refine MB.out.mono ?_
    rintro e w1 ⟨rfl, rfl⟩
    have hi1 : IntKind.i64.wrap ((i : Int) - 1) = (i : Int) - 1 := IntWalk.i64_in _ (by have := HK.out; have := HL.out; omega)
    go_wp2
    exact ⟨⟨i, by have := HK.out; omega, by first | rfl | trivial, Lib.hid (fun j hj => by
     by_cases hji : j = i
     ·
      subst hji; rw [HX.out, HY.out, HE2.out]
     ·
      exact HE.out j (by omega)), by first | rfl | trivial⟩, by first | (simp [intOf]; done) | (simp [intOf]; omega)⟩
   ·
    have hne : ((x : Int) != (y : Int)) = true := by simp; omega
    have hw : IntKind.i64.wrap ((x : Int) - y) = (x : Int) - y := IntWalk.i64_in _ (by omega)
    have HV : Hid (cz = (x : Int) - y) := Lib.hid (by rw [← HCZ.out, compZ_at (i := i) (by rw [HX.out, HY.out]; exact he) (fun j hj => HE.out j hj) _ (by rw [← HM.out]; have := HK.out; omega), HX.out, HY.out])
    clear he
    go_wp2_with fail
    refine MA.out.mono ?_
    rintro e w1 ⟨rfl, rfl⟩
    go_wp2_with fail
    refine MB.out.mono ?_
    rintro e w1 ⟨rfl, rfl⟩
    go_wp2_with fail
    refine MA.out.mono ?_
    rintro e w1 ⟨rfl, rfl⟩
    go_wp2_with fail
    refine MB.out.mono ?_
    rintro e w1 ⟨rfl, rfl⟩
    go_wp2
    go_ret
    exact ⟨by rw [HV.out]; rfl, rfl⟩
attribute [local irreducible] wpSeqS wpAnyS wpPreS
theorem seesOneD {W : World} {g d : Nat} (hb : W.heap[g]? = some (.cells #[.int .i64 (d : Int)] 3)) : SeesD W (.slice (some ⟨g, 0, none⟩) 1 1) [d] := by
 refine ⟨_, 1, rfl, by simp, by simp [maxLen], .inr ⟨g, 0, rfl, fun i p hp => ?_⟩⟩
 match i, hp with
 | 0, hp => simp at hp; subst hp; exact cellAt hb 0 rfl
 | i + 1, hp => simp at hp
theorem rplus_ok (S : Sep w Rs W) (sa sb : Value) (a b : List Nat) (ha : SeesD w sa a) (hb : SeesD w sb b) (da : Digs a) (db : Digs b) (m : Nat) (hm : m = max a.length b.length + 1) (hlm : m ≤ 9000000) : Calls Tryz.prog 177 #[sa, sb] W fun e W' => ∃ va vc, e = .returned (.slice va m vc) ∧ Sep w (dR (.slice va m vc) (plusO a b m) :: Rs) W' := by
 have hla := ha.len
 have hlb := hb.len
 have HA := Lib.hid ha
 have HB := Lib.hid hb
 obtain ⟨aa, ac, rfl, -, -, -⟩ := ha
 obtain ⟨ba, bc, rfl, -, -, -⟩ := hb
 have hm1 : max (a.length : Int) (b.length : Int) + 1 = (m : Int) := by omega
 have hm2 : (if (a.length : Int) < (b.length : Int) then (b.length : Int) else (a.length : Int)) + 1 = (m : Int) := by split <;> omega
 have HM := Lib.hid hm
 have DA := Lib.hid da
 have DB := Lib.hid db
 have HLM := Lib.hid hlm
 clear hm da db hlm
 obtain ⟨bA, hbs⟩ : ∃ l, l = Rs := ⟨_, rfl⟩
 have HBS := Lib.hid hbs
 replace S : Sep w ([] ++ bA) W := by rw [hbs]; exact S
 clear hbs
 replace S := Lib.hid S
 go_enter Tryz.func177, Tryz.ntmps177
 go_upto_region 1 with fail
 refine regionL (E := [emptyR]) (base := bA) (Sep.putE S.out) ?_
 clear S
 refine stepL (fun v E1 => ∃ (q_1_1 : Nat), v = .slice (some ⟨q_1_1, 0, none⟩) 0 0 ∧ E1 = [dR (.slice (some ⟨q_1_1, 0, none⟩) 0 0) []]) (h1 := fun Wx hSw => by (go_simp; exact ⟨_, ⟨_, rfl, rfl⟩, (hSw.madeRow natC 1 3).into 0 rfl⟩)) (h2 := fun v E1 hvE => ?_)
 obtain ⟨q_1_1, rfl, rfl⟩ := hvE; simp only [Act.put, pa]; try dsimp only [List.set]
 refine qa ?_
 refine doneL (h := fun w1 S => ?_)
 replace S := Lib.hid S
 replace S : Sep w ([dR (.slice (some ⟨q_1_1, 0, none⟩) 0 0) []] ++ bA) w1 := S.out
 go_wp2
 go_loopw [5, 6, 7] (fun s5 s6 s7 wr => ∃ (k : Nat) (va : Option Addr) (vc : Nat), k ≤ m ∧ s5 = .slice va k vc ∧ s6 = .int .i64 (plusC a b k : Nat) ∧ s7 = .int .i64 k ∧ Sep w ([dR (.slice va k vc) (plusO a b k)] ++ bA) wr) (fun _ _ s7 _ => m - (intOf s7).toNat)
 case atStart => exact ⟨0, _, _, Nat.zero_le _, rfl, rfl, rfl, S⟩
 case round =>
  clear S
  obtain ⟨k, va, vc, hk, rfl, rfl, rfl, S⟩ := hrel
  by_cases hlt : k < m
  ·
   have hgo : (k : Int) ≤ max (a.length : Int) (b.length : Int) := by omega
   have hgo2 : (k : Int) ≤ (if (a.length : Int) < (b.length : Int) then (b.length : Int) else (a.length : Int)) := by omega
   obtain ⟨x, hx⟩ : ∃ x, digD a k = x := ⟨_, rfl⟩
   obtain ⟨y, hy⟩ : ∃ y, digD b k = y := ⟨_, rfl⟩
   obtain ⟨c, hc⟩ : ∃ c, plusC a b k = c := ⟨_, rfl⟩
   have hx6 : x < 65536 := by rw [← hx]; exact digD_lt DA.out k
   have hy6 : y < 65536 := by rw [← hy]; exact digD_lt DB.out k
   have hc1 : c ≤ 1 := by rw [← hc]; exact plusC_le DA.out DB.out k
   rw [hc]
   have Hx_ := Lib.hid hx
   have Hy_ := Lib.hid hy
   have HC := Lib.hid hc
   have HLT := Lib.hid hlt
   clear hx hy hc hlt hk
   replace S := Lib.hid S
   have KX : QuietC w bA 180 #[.slice aa a.length ac, .int .i64 k] (.int .i64 x) := Lib.hid fun W Q T => by
    exact (rdigit_ok W _ _ (HA.out.below T.below) k).mono fun e W' ⟨e1, e2⟩ => ⟨by rw [e1, Hx_.out], by rw [e2]; exact T⟩
   have KY : QuietC w bA 180 #[.slice ba b.length bc, .int .i64 k] (.int .i64 y) := Lib.hid fun W Q T => by
    exact (rdigit_ok W _ _ (HB.out.below T.below) k).mono fun e W' ⟨e1, e2⟩ => ⟨by rw [e1, Hy_.out], by rw [e2]; exact T⟩
   have w1_ : IntKind.i64.wrap ((x : Int) + y) = (x : Int) + y := IntWalk.i64_in _ (by omega)
   obtain ⟨s, hs⟩ : ∃ s : Nat, s = x + y + c := ⟨_, rfl⟩
   have w2_ : IntKind.i64.wrap ((x : Int) + y + c) = (s : Int) := by rw [hs]; exact IntWalk.i64_in _ (by omega)
   have hs6 : s < 140000 := by omega
   obtain ⟨d, hd⟩ : ∃ d, d = s % 65536 := ⟨_, rfl⟩
   obtain ⟨c2, hc2⟩ : ∃ d, d = s / 65536 := ⟨_, rfl⟩
   have t1 : (s : Int).tmod 65536 = (d : Int) := by rw [hd, Int.tmod_eq_emod_of_nonneg (by omega)]; omega
   have t2 : (s : Int).tdiv 65536 = (c2 : Int) := by rw [hc2, Int.tdiv_eq_ediv_of_nonneg (by omega)]; omega
   have t3 : IntKind.i64.wrap (d : Int) = (d : Int) := IntWalk.i64_in _ (by omega)
   have t4 : IntKind.i64.wrap (c2 : Int) = (c2 : Int) := IntWalk.i64_in _ (by omega)
   have HD := Lib.hid hd
   have HC2 := Lib.hid hc2
   have HS := Lib.hid hs
   clear hd hc2 hs hs6 hx6 hy6 hc1
   go_upto_region 6 with fail
   refine regionL (E := [dR (.slice va k vc) (plusO a b k)]) (base := bA) S.out ?_
   clear S
   iterate 2 refine qa ?_
   refine qk KX ?_
   iterate 2 refine qa ?_
   refine qk KY ?_
   iterate 4 refine qa ?_
   refine doneL (h := fun w2 S => ?_)
   replace S := Lib.hid S
   go_upto_region 7 with fail
   refine regionL (E := [emptyR, dR (.slice va k vc) (plusO a b k)]) (base := bA) (Sep.putE S.out) ?_
   clear S
   iterate 3 refine qa ?_
   refine allocL 0 rfl (fun q => .slice (some ⟨q, 0, none⟩) 1 1) (.cells #[.int .i64 d] 3) (h1 := fun Wx => by go_simp) (h2 := fun qQ1 => ?_); simp only [Act.put, pa]; try dsimp only [List.set]
   try simp only [List.set_cons_zero, List.set_cons_succ]
   refine stepL (fun v E1 => ∃ (va_3_2 : Option Addr) (vc_3_2 : Nat), v = .slice va_3_2 (k + 1) vc_3_2 ∧ E1 = [boxR qQ1 (.cells #[.int .i64 d] 3), dR (.slice va_3_2 (k + 1) vc_3_2) (plusO a b k ++ [d])]) (h1 := fun Wx hSw => by (obtain ⟨va, vc, w2, hr, S2⟩ := hSw.appendD 1 rfl (plusO_len a b k) (ys := [d]) (seesOneD (hSw.box (b := qQ1) 0 rfl)) (k + 1) rfl (by have := HLM.out; have := HLT.out; omega); exact symAppend _ _ _ _ rfl _ _ rfl rfl hr ⟨_, ⟨va, vc, rfl, rfl⟩, S2⟩)) (h2 := fun v E1 hvE => ?_)
   obtain ⟨va_3_2, vc_3_2, rfl, rfl⟩ := hvE; simp only [Act.put, pa]; try dsimp only [List.set]
   refine qa ?_
   refine doneL (h := fun w3 S => ?_)
   replace S := Lib.hid S
   have e1 : plusO a b k ++ [d] = plusO a b (k + 1) := by rw [plusO_next, Hx_.out, Hy_.out, HC.out, HD.out, HS.out]
   have e2 : plusC a b (k + 1) = c2 := by rw [HC2.out, HS.out, ← Hx_.out, ← Hy_.out, ← HC.out]; rfl
   have E2 := Lib.hid e2
   have S9 := S.out.tail
   rw [e1] at S9
   replace S := Lib.hid S9
   clear S9 e1 e2
   have hi1 : IntKind.i64.wrap ((k : Int) + 1) = (k : Int) + 1 := IntWalk.i64_in _ (by have := HLM.out; have := HLT.out; omega)
   go_wp2
   exact ⟨⟨k + 1, _, _, HLT.out, rfl, by rw [E2.out], by go_num, S.out⟩, by have := HLT.out; simp [intOf]; omega⟩
  ·
   obtain rfl : k = m := by omega
   have hno : ¬ (k : Int) ≤ max (a.length : Int) (b.length : Int) := by omega
   have hno2 : ¬ (k : Int) ≤ (if (a.length : Int) < (b.length : Int) then (b.length : Int) else (a.length : Int)) := by omega
   rw [HBS.out] at S
   replace S := Lib.hid S
   clear hlt hk
   go_wp2
   go_ret
   exact ⟨va, vc, rfl, S.out⟩
theorem rless_ok (S : Sep w Rs W) (sa sb : Value) (a b : List Nat) (ha : SeesD w sa a) (hb : SeesD w sb b) (da : Digs a) (db : Digs b) (hlm : a.length ≤ 9000000) : Calls Tryz.prog 179 #[sa, sb] W fun e W' => ∃ va vc, e = .returned (.slice va a.length vc) ∧ Sep w (dR (.slice va a.length vc) (lessO a b a.length) :: Rs) W' := by
 have hla := ha.len
 have hlb := hb.len
 have HA := Lib.hid ha
 have HB := Lib.hid hb
 obtain ⟨aa, ac, rfl, -, -, -⟩ := ha
 obtain ⟨ba, bc, rfl, -, -, -⟩ := hb
 obtain ⟨m, hm⟩ : ∃ m, m = a.length := ⟨_, rfl⟩
 have hm1 : (a.length : Int) = (m : Int) := by rw [hm]
 have HM := Lib.hid hm
 have DA := Lib.hid da
 have DB := Lib.hid db
 have HLM := Lib.hid hlm
 clear hm da db hlm hm1
 obtain ⟨bA, hbs⟩ : ∃ l, l = Rs := ⟨_, rfl⟩
 have HBS := Lib.hid hbs
 replace S : Sep w ([] ++ bA) W := by rw [hbs]; exact S
 clear hbs
 replace S := Lib.hid S
 go_enter Tryz.func179, Tryz.ntmps179
 go_upto_region 1 with fail
 refine regionL (E := [emptyR]) (base := bA) (Sep.putE S.out) ?_
 clear S
 refine stepL (fun v E1 => ∃ (q_1_1 : Nat), v = .slice (some ⟨q_1_1, 0, none⟩) 0 0 ∧ E1 = [dR (.slice (some ⟨q_1_1, 0, none⟩) 0 0) []]) (h1 := fun Wx hSw => by (go_simp; exact ⟨_, ⟨_, rfl, rfl⟩, (hSw.madeRow natC 1 3).into 0 rfl⟩)) (h2 := fun v E1 hvE => ?_)
 obtain ⟨q_1_1, rfl, rfl⟩ := hvE; simp only [Act.put, pa]; try dsimp only [List.set]
 refine qa ?_
 refine doneL (h := fun w1 S => ?_)
 replace S := Lib.hid S
 replace S : Sep w ([dR (.slice (some ⟨q_1_1, 0, none⟩) 0 0) []] ++ bA) w1 := S.out
 go_wp2
 go_loopw [5, 6, 7] (fun s5 s6 s7 wr => ∃ (k : Nat) (va : Option Addr) (vc : Nat), k ≤ m ∧ s5 = .slice va k vc ∧ s6 = .int .i64 (lessC a b k : Nat) ∧ s7 = .int .i64 k ∧ Sep w ([dR (.slice va k vc) (lessO a b k)] ++ bA) wr) (fun _ _ s7 _ => m - (intOf s7).toNat)
 case atStart => exact ⟨0, _, _, Nat.zero_le _, rfl, rfl, rfl, S⟩
 case round =>
  clear S
  obtain ⟨k, va, vc, hk, rfl, rfl, rfl, S⟩ := hrel
  by_cases hlt : k < m
  ·
   have hgo : (k : Int) < a.length := by have := HM.out; omega
   obtain ⟨x, hx⟩ : ∃ x, digD a k = x := ⟨_, rfl⟩
   obtain ⟨y, hy⟩ : ∃ y, digD b k = y := ⟨_, rfl⟩
   obtain ⟨c, hc⟩ : ∃ c, lessC a b k = c := ⟨_, rfl⟩
   have hx6 : x < 65536 := by rw [← hx]; exact digD_lt DA.out k
   have hy6 : y < 65536 := by rw [← hy]; exact digD_lt DB.out k
   have hc1 : c ≤ 1 := by rw [← hc]; exact lessC_le a b k
   rw [hc]
   have Hx_ := Lib.hid hx
   have Hy_ := Lib.hid hy
   have HC := Lib.hid hc
   have HLT := Lib.hid hlt
   clear hx hy hc hlt hk
   replace S := Lib.hid S
   have KX : QuietC w bA 180 #[.slice aa a.length ac, .int .i64 k] (.int .i64 x) := Lib.hid fun W Q T => by
    exact (rdigit_ok W _ _ (HA.out.below T.below) k).mono fun e W' ⟨e1, e2⟩ => ⟨by rw [e1, Hx_.out], by rw [e2]; exact T⟩
   have KY : QuietC w bA 180 #[.slice ba b.length bc, .int .i64 k] (.int .i64 y) := Lib.hid fun W Q T => by
    exact (rdigit_ok W _ _ (HB.out.below T.below) k).mono fun e W' ⟨e1, e2⟩ => ⟨by rw [e1, Hy_.out], by rw [e2]; exact T⟩
   have w1_ : IntKind.i64.wrap ((x : Int) - y) = (x : Int) - y := IntWalk.i64_in _ (by omega)
   obtain ⟨z, hz⟩ : ∃ z : Int, z = (x : Int) - y - c := ⟨_, rfl⟩
   have w2_ : IntKind.i64.wrap ((x : Int) - y - c) = z := by rw [hz]; exact IntWalk.i64_in _ (by omega)
   obtain ⟨d, hd⟩ : ∃ d, d = (x + 65536 - y - c) % 65536 := ⟨_, rfl⟩
   have HD := Lib.hid hd
   have HZ := Lib.hid hz
   have HB6 := Lib.hid (And.intro hx6 (And.intro hy6 hc1))
   clear hd hz hx6 hy6 hc1
   go_upto_region 6 with fail
   refine regionL (E := [dR (.slice va k vc) (lessO a b k)]) (base := bA) S.out ?_
   clear S
   iterate 2 refine qa ?_
   refine qk KX ?_
   iterate 2 refine qa ?_
   refine qk KY ?_
   iterate 4 refine qa ?_
   refine doneL (h := fun w2 S => ?_)
   replace S := Lib.hid S
   clear w1_ w2_
   by_cases hzl : z < 0
   ·
    have hw3 : IntKind.i64.wrap (z + 65536) = (d : Int) := by have := HB6.out; have := HD.out; have := HZ.out; rw [IntWalk.i64_in _ (by omega)]; omega
    have e2 : lessC a b (k + 1) = 1 := by unfold lessC; rw [Hx_.out, Hy_.out, HC.out, if_pos (by have := HZ.out; omega)]
    have E2 := Lib.hid e2
    clear e2
    go_upto_region 11 with fail
    refine regionL (E := [emptyR, dR (.slice va k vc) (lessO a b k)]) (base := bA) (Sep.putE S.out) ?_
    clear S
    iterate 2 refine qa ?_
    refine allocL 0 rfl (fun q => .slice (some ⟨q, 0, none⟩) 1 1) (.cells #[.int .i64 d] 3) (h1 := fun Wx => by go_simp) (h2 := fun qQ1 => ?_); simp only [Act.put, pa]; try dsimp only [List.set]
    try simp only [List.set_cons_zero, List.set_cons_succ]
    refine stepL (fun v E1 => ∃ (va_3_2 : Option Addr) (vc_3_2 : Nat), v = .slice va_3_2 (k + 1) vc_3_2 ∧ E1 = [boxR qQ1 (.cells #[.int .i64 d] 3), dR (.slice va_3_2 (k + 1) vc_3_2) (lessO a b k ++ [d])]) (h1 := fun Wx hSw => by (obtain ⟨va, vc, w2, hr, S2⟩ := hSw.appendD 1 rfl (lessO_len a b k) (ys := [d]) (seesOneD (hSw.box (b := qQ1) 0 rfl)) (k + 1) rfl (by have := HLM.out; have := HLT.out; have := HM.out; omega); exact symAppend _ _ _ _ rfl _ _ rfl rfl hr ⟨_, ⟨va, vc, rfl, rfl⟩, S2⟩)) (h2 := fun v E1 hvE => ?_)
    obtain ⟨va_3_2, vc_3_2, rfl, rfl⟩ := hvE; simp only [Act.put, pa]; try dsimp only [List.set]
    refine qa ?_
    refine doneL (h := fun w3 S => ?_)
    replace S := Lib.hid S
    have e1 : lessO a b k ++ [d] = lessO a b (k + 1) := by rw [lessO_next, Hx_.out, Hy_.out, HC.out, HD.out]
    have S9 := S.out.tail
    rw [e1] at S9
    replace S := Lib.hid S9
    clear S9 e1
    have hi1 : IntKind.i64.wrap ((k : Int) + 1) = (k : Int) + 1 := IntWalk.i64_in _ (by omega)
    go_wp2
    exact ⟨⟨k + 1, _, _, HLT.out, rfl, by rw [E2.out]; rfl, by go_num, S.out⟩, by have := HLT.out; simp [intOf]; omega⟩
   ·
    have hzd : z = (d : Int) := by have := HB6.out; have := HD.out; have := HZ.out; omega
    have e2 : lessC a b (k + 1) = 0 := by unfold lessC; rw [Hx_.out, Hy_.out, HC.out, if_neg (by have := HZ.out; omega)]
    have E2 := Lib.hid e2
    clear e2
    subst hzd
    go_upto_region 11 with fail
    refine regionL (E := [emptyR, dR (.slice va k vc) (lessO a b k)]) (base := bA) (Sep.putE S.out) ?_
    clear S
    iterate 2 refine qa ?_
    refine allocL 0 rfl (fun q => .slice (some ⟨q, 0, none⟩) 1 1) (.cells #[.int .i64 d] 3) (h1 := fun Wx => by go_simp) (h2 := fun qQ1 => ?_); simp only [Act.put, pa]; try dsimp only [List.set]
    try simp only [List.set_cons_zero, List.set_cons_succ]
    refine stepL (fun v E1 => ∃ (va_4_2 : Option Addr) (vc_4_2 : Nat), v = .slice va_4_2 (k + 1) vc_4_2 ∧ E1 = [boxR qQ1 (.cells #[.int .i64 d] 3), dR (.slice va_4_2 (k + 1) vc_4_2) (lessO a b k ++ [d])]) (h1 := fun Wx hSw => by (obtain ⟨va, vc, w2, hr, S2⟩ := hSw.appendD 1 rfl (lessO_len a b k) (ys := [d]) (seesOneD (hSw.box (b := qQ1) 0 rfl)) (k + 1) rfl (by have := HLM.out; have := HLT.out; have := HM.out; omega); exact symAppend _ _ _ _ rfl _ _ rfl rfl hr ⟨_, ⟨va, vc, rfl, rfl⟩, S2⟩)) (h2 := fun v E1 hvE => ?_)
    obtain ⟨va_4_2, vc_4_2, rfl, rfl⟩ := hvE; simp only [Act.put, pa]; try dsimp only [List.set]
    refine qa ?_
    refine doneL (h := fun w4 S => ?_)
    replace S := Lib.hid S
    have e1 : lessO a b k ++ [d] = lessO a b (k + 1) := by rw [lessO_next, Hx_.out, Hy_.out, HC.out, HD.out]
    have S9 := S.out.tail
    rw [e1] at S9
    replace S := Lib.hid S9
    clear S9 e1
    have hi1 : IntKind.i64.wrap ((k : Int) + 1) = (k : Int) + 1 := IntWalk.i64_in _ (by omega)
    go_wp2
    exact ⟨⟨k + 1, _, _, HLT.out, rfl, by rw [E2.out]; rfl, by go_num, S.out⟩, by have := HLT.out; simp [intOf]; omega⟩
  ·
   obtain rfl : k = m := by omega
   have hno : ¬ (k : Int) < a.length := by have := HM.out; omega
   obtain rfl : k = a.length := HM.out
   rw [HBS.out] at S
   replace S := Lib.hid S
   clear hlt hk
   go_wp2
   go_ret
   exact ⟨va, vc, rfl, S.out⟩
end
end Go.Proofs.YtijlebhoapdfnaaGreat
