/- ch 16: Repr and Str, of both, where texts are short. -/
import Derived.Test.YtijlebhoapdfnaaGreatPlainO
import Derived.Test.YtijlebhoapdfnaaGreatRTelE
import Derived.Test.YtijlebhoapdfnaaGreatRef2
import Derived.Test.YtijlebhoapdfnaaGreatRTelG
import Derived.Test.YtijlebhoapdfnaaGreatQuoA
/- ch 16: the texts that made's objects hold are short. -/
namespace Go.Proofs.YtijlebhoapdfnaaGreat
set_option linter.unusedSimpArgs false
open Go.RowKit
set_option linter.unusedVariables false
theorem plainV_size (x : V) : (plainV x).s.size ≤ 8 := by
 show (x.s.extract 0 (min x.s.size 8)).size ≤ 8
 rw [ByteArray.size_extract]; omega
/-- Short names, and short texts in all that is held. -/
def ObjM.Short (o : ObjM) : Prop := o.name.size ≤ 2 ∧ (∀ x ∈ o.items, x.s.size ≤ 8) ∧ ∀ q ∈ o.pairs, q.1.s.size ≤ 8 ∧ q.2.s.size ≤ 8
def HeapM.Short (H : HeapM) : Prop := ∀ p ∈ H.objs, p.2.Short
theorem HeapM.Short.of {H : HeapM} (h : H.Short) {v : V} {o : ObjM} (g : H.of v = some o) : o.Short := h _ (getL_mem (HeapM.of_some g).2)
theorem HeapM.Short.set {H : HeapM} (h : H.Short) (n : Int) {o : ObjM} (ho : o.Short) : (H.set n o).Short := fun p hp => by
 obtain ⟨q, hq, e⟩ := List.mem_map.1 hp
 by_cases hn : q.1 = n
 ·
  rw [if_pos hn] at e; subst e; exact ho
 ·
  rw [if_neg hn] at e; subst e; exact h q hq
theorem HeapM.Short.put {H : HeapM} (h : H.Short) (v k x : V) (hk : k.s.size ≤ 8) (hx : x.s.size ≤ 8) : (H.put v k x).Short := by
 unfold HeapM.put
 cases g : H.of v with
 | none => exact h
 | some o =>
  simp only
  split
  ·
   obtain ⟨h1, h2, h3⟩ := h.of g
   refine h.set _ ⟨h1, h2, fun q hq => ?_⟩
   replace hq : q ∈ putL o.pairs k x := hq
   cases e : getL o.pairs k with
   | none =>
    rw [putL_none x e] at hq
    rcases List.mem_append.1 hq with hq | hq
    ·
     exact h3 q hq
    ·
     simp at hq; subst hq; exact ⟨hk, hx⟩
   | some y =>
    rw [putL_some x e] at hq
    obtain ⟨p, hp, e2⟩ := List.mem_map.1 hq
    by_cases hpk : p.1 = k
    ·
     rw [if_pos hpk] at e2; subst e2; exact ⟨hk, hx⟩
    ·
     rw [if_neg hpk] at e2; subst e2; exact h3 p hp
  ·
   exact h
theorem HeapM.Short.replace {H : HeapM} (h : H.Short) (v : V) (i j : Int) (l : List V) (hl : ∀ x ∈ l, x.s.size ≤ 8) : (H.replace v i j l).Short := by
 unfold HeapM.replace
 cases g : H.of v with
 | none => exact h
 | some o =>
  simp only
  split
  ·
   obtain ⟨h1, h2, h3⟩ := h.of g
   refine h.set _ ⟨h1, fun x hx => ?_, h3⟩
   replace hx : x ∈ o.items.take i.toNat ++ l ++ o.items.drop j.toNat := hx
   rcases List.mem_append.1 hx with hx | hx
   ·
    rcases List.mem_append.1 hx with hx | hx
    ·
     exact h2 x (List.mem_of_mem_take hx)
    ·
     exact hl x hx
   ·
    exact h2 x (List.mem_of_mem_drop hx)
  ·
   exact h
theorem short_puts {v : V} : ∀ (l : List (V × V)) {H : HeapM}, H.Short → (putsM H v l).Short
 | [], _, h => h
 | p :: l, H, h => short_puts l (h.put v _ _ (plainV_size p.1) (plainV_size p.2))
theorem short_madeA : ∀ (l : List ObjI) {H : HeapM}, H.Short → (l.foldl (fun H p => H.add (nmO p)) H).Short
 | [], _, h => h
 | p :: l, H, h => short_madeA l (H := H.add (nmO p)) fun q hq => by
  rcases List.mem_append.1 hq with h1 | h1
  ·
   exact h q h1
  ·
   simp at h1; subst h1; exact ⟨by show (⟨#[110, 109]⟩ : ByteArray).size ≤ 2; decide, by simp [nmO], by simp [nmO]⟩
theorem short_madeB (l : List ObjI) : ∀ k, (madeB l k).Short
 | 0 => short_madeA l (H := ⟨[], 0⟩) fun p hp => by simp at hp
 | k + 1 => by
  rw [madeB]
  split
  ·
   refine short_puts _ ((short_madeB l k).replace _ _ _ _ fun x hx => ?_)
   obtain ⟨y, -, rfl⟩ := List.mem_map.1 hx
   exact plainV_size y
  ·
   exact short_madeB l k
theorem madeO_short (l : List ObjI) : (madeO l).Short := short_madeB _ _
/-- What is told of such a heap. -/
theorem HeapM.Short.name {H : HeapM} (h : H.Short) (v : V) : (H.name v).size ≤ 2 := by
 unfold HeapM.name
 cases g : H.of v with
 | none => show (⟨#[]⟩ : ByteArray).size ≤ 2; decide
 | some o => exact (h.of g).1
theorem HeapM.Short.items {H : HeapM} (h : H.Short) (v x : V) (hx : x ∈ H.items v) : x.s.size ≤ 8 := by
 unfold HeapM.items at hx
 cases g : H.of v with
 | none => rw [g] at hx; simp at hx
 | some o => rw [g] at hx; exact (h.of g).2.1 x hx
theorem HeapM.Short.pairs {H : HeapM} (h : H.Short) (v : V) (p : V × V) (hp : p ∈ H.pairs v) : p.1.s.size ≤ 8 ∧ ((H.get v p.1).getD V.zero).s.size ≤ 8 := by
 unfold HeapM.get
 unfold HeapM.pairs at hp ⊢
 cases g : H.of v with
 | none => rw [g] at hp; simp at hp
 | some o =>
  rw [g] at hp
  refine ⟨((h.of g).2.2 p hp).1, ?_⟩
  show ((getL o.pairs p.1).getD V.zero).s.size ≤ 8
  cases e : getL o.pairs p.1 with
  | none => decide
  | some y => exact ((h.of g).2.2 _ (getL_mem e)).2
theorem HeapM.kind_in {H : HeapM} {N : Nat} (F : H.Fit N) (v : V) : 0 ≤ H.kind v ∧ H.kind v ≤ 12 := by
 unfold HeapM.kind
 cases g : H.of v with
 | none => simp
 | some o => have := F.K _ (getL_mem (HeapM.of_some g).2); simp only [Option.map_some, Option.getD_some]; simp only at this; omega
/-- A plain value's text is short. -/
theorem HeapM.Short.plain {H : HeapM} (h : H.Short) {N : Nat} (F : H.Fit N) (v : V) (hv : v.s.size ≤ 8) : (H.plainL v).length ≤ 1000000 := by
 have h3 : v.s.data.toList.length = v.s.size := rfl
 have h4 := h.name v
 have h5 : (H.name v).data.toList.length = (H.name v).size := rfl
 unfold HeapM.plainL
 split
 ·
  decide
 split
 ·
  split <;> decide
 split
 ·
  obtain ⟨h1, h2⟩ := okI_range v.hn
  have := digitsU_len 18 v.n.natAbs (by omega)
  unfold textN
  rw [List.length_append]
  split <;> simp <;> omega
 split
 ·
  have := quote_len v.s.data.toList
  unfold quoteL
  simp only [List.length_cons, List.length_append, List.length_nil]
  omega
 split
 ·
  simp only [List.length_cons, List.length_append, List.length_nil]; omega
 ·
  have : (wordK (H.kind v)).length ≤ 20 := by unfold wordK; (repeat' split) <;> simp
  simp only [List.length_cons, List.length_append, List.length_nil]
  split
  ·
   omega
  ·
   simp; omega
end Go.Proofs.YtijlebhoapdfnaaGreat
set_option maxRecDepth 100000
set_option maxHeartbeats 12800000
namespace Go.Proofs.YtijlebhoapdfnaaGreat
set_option linter.unusedSimpArgs false
open Go.RowKit
set_option linter.unusedVariables false
attribute [local irreducible] wpSeqS wpAnyS wpPreS
/-- What Str answers, as it lies. -/
def HeapM.strV (H : HeapM) (v : V) : Value := if v.kind = 3 then .tuple #[.string v.s, excZ] else reprV (H.reprM v)
theorem HeapM.strV_parts (H : HeapM) (v : V) : ∃ s nm, H.strV v = .tuple #[.string s, excN nm] := by
 unfold HeapM.strV
 split
 ·
  exact ⟨_, ⟨#[]⟩, rfl⟩
 ·
  exact reprV_parts _
/-- Oneself a row of one. -/
theorem oneRow {w W : World} {Rs : List Res} (S : Sep w Rs W) (x : V) : Sep w (valsR (.slice (some ⟨W.heap.size, 0, none⟩) 1 1) [x] :: Rs) (W.alloc (.cells #[.int .i64 x.kind, .int .i64 x.n, .string x.s] 24)) :=
 S.addRow (belowAlloc W _) (α := V) (f := V.cells) (l := [x]) ⟨by simp [V.cells], .inr ⟨W.heap.size, 1, #[.int .i64 x.kind, .int .i64 x.n, .string x.s], rfl, Nat.zero_le _, heap_alloc_new W _, Nat.le_refl _, by decide, rfl, by simp [V.cells]⟩⟩ (by simp [Value.ownBlock])
section
variable {w W : World} {Rs : List Res} {h : Nat} {H : HeapM} {N : Nat}
theorem plainAt_all (F : H.Fit N) (Sh : H.Short) : PlainAt w h H (fun v => v.s.size ≤ 8) := fun t v hv hw => by
 refine ⟨Sh.plain F v hv, fun {Rs W T} S ⟨i, hi⟩ => ?_⟩
 by_cases h5 : v.kind = 5
 ·
  exact plain_fun S v h5 (by omega)
 by_cases hk : v.kind = 0 ∨ v.kind = 1 ∨ v.kind = 2 ∨ v.kind = 3
 ·
  exact plain_ok S v hk (by omega)
 ·
  have := Sh.name v
  exact plain_obj S 0 rfl (i + 1) (by simpa using hi) v (by omega) hw (HeapM.kind_in F v) (by omega)
theorem repr_s (F : H.Fit N) (hN : N ≤ 4000000) (Sh : H.Short) (S : Sep w Rs W) (i : Nat) (hi : Rs[i]? = some (heapR h H)) (v : V) (hv : v.s.size ≤ 8) :
  Calls Tryz.prog 30 #[.pointer (some ⟨h, 0, none⟩), .agg #[.int .i64 v.kind, .int .i64 v.n, .string v.s]] W fun e W' => e = .returned (reprV (H.reprM v)) ∧ Sep w Rs W' :=
 repr_ok F.G hN (plainAt_all F Sh) (fun v x _ hx => Sh.items v x hx) (fun v p _ hp => Sh.pairs v p hp) S i hi v hv
theorem rplain_all (F : H.Fit N) (Sh : H.Short) : ∀ v : V, v.s.size ≤ 8 → H.wholeB v = false → (H.wholeB v = false ∧ (0 ≤ H.kind v ∧ H.kind v ≤ 12) ∧ (H.name v).size ≤ 1000000 ∧ v.s.size ≤ 1000000 ∧ okI v.n) ∧ (H.plainL v).length ≤ 9000000 := fun v hv hw => by
 have h1 := Sh.name v
 have h2 := Sh.plain F v hv
 exact ⟨⟨hw, HeapM.kind_in F v, by omega, by omega, v.hn⟩, by omega⟩
theorem rrepr_s (F : H.Fit N) (hN : N ≤ 4000000) (Sh : H.Short) (S : Sep w Rs W) (i : Nat) (hi : Rs[i]? = some (refR h H)) (v : V) (hv : v.s.size ≤ 8) :
  Calls Tryz.prog 31 #[.pointer (some ⟨h, 0, none⟩), .agg #[.int .i64 v.kind, .int .i64 v.n, .string v.s]] W fun e W' => e = .returned (reprV (H.reprM v)) ∧ Sep w Rs W' :=
 rrepr_ok (P := fun v => v.s.size ≤ 8) F.G hN (rplain_all F Sh) (fun v x _ hx => Sh.items v x hx) (fun v p _ hp => Sh.pairs v p hp) S i hi v hv
theorem rstr_s (F : H.Fit N) (hN : N ≤ 4000000) (Sh : H.Short) (S : Sep w Rs W) (i : Nat) (hi : Rs[i]? = some (refR h H)) (v : V) (hv : v.s.size ≤ 8) :
  Calls Tryz.prog 33 #[.pointer (some ⟨h, 0, none⟩), .agg #[.int .i64 v.kind, .int .i64 v.n, .string v.s]] W fun e W' => e = .returned (H.strV v) ∧ Sep w Rs W' := by
 unfold HeapM.strV
 by_cases hk : v.kind = 3
 ·
  rw [if_pos hk]; exact rstr_str S v hk
 ·
  rw [if_neg hk]; exact rstr_other (P := fun v => v.s.size ≤ 8) F.G hN (rplain_all F Sh) (fun v x _ hx => Sh.items v x hx) (fun v p _ hp => Sh.pairs v p hp) S i hi v hv hk
theorem str_other (F : H.Fit N) (hN : N ≤ 4000000) (Sh : H.Short) (S : Sep w Rs W) (i : Nat) (hi : Rs[i]? = some (heapR h H)) (v : V) (hv : v.s.size ≤ 8) (hk : ¬ v.kind = 3) : Calls Tryz.prog 32 #[.pointer (some ⟨h, 0, none⟩), .agg #[.int .i64 v.kind, .int .i64 v.n, .string v.s]] W fun e W' => e = .returned (reprV (H.reprM v)) ∧ Sep w Rs W' := by
 obtain ⟨sx, nm, hR⟩ := reprV_parts (H.reprM v)
 have HREP : Hid (∀ {Rs : List Res} {W : World} (S : Sep w Rs W) (i : Nat) (hi : Rs[i]? = some (heapR h H)), Calls Tryz.prog 30 #[.pointer (some ⟨h, 0, none⟩), .agg #[.int .i64 v.kind, .int .i64 v.n, .string v.s]] W fun e W' => e = .returned (.tuple #[.string sx, excN nm]) ∧ Sep w Rs W') := Lib.hid fun S i hi => by rw [← hR]; exact repr_s F hN Sh S i hi v hv
 rw [hR]
 clear hR F Sh hv
 have e1 : (v.kind == 3) = false := by simp [hk]
 clear hk
 obtain ⟨b, hb⟩ : ∃ gx_, (W.heap.size) = gx_ := ⟨_, rfl⟩
 replace S := ((S.alloc (.cells #[.int .i64 v.kind, .int .i64 v.n, .string v.s] 24)).alloc (.cells #[.string ⟨#[]⟩, .int .i64 0, .int .i64 0, .string ⟨#[]⟩, .bool false] 33))
 simp only [World.size_alloc, hb] at S
 obtain ⟨bA, hbs⟩ : ∃ l, l = boxV b v :: Rs := ⟨_, rfl⟩
 have HBS := Lib.hid hbs
 replace S := enterP (w := w) (all := [boxE (b + 1), boxV b v]) (E := [boxE (b + 1)]) (B := [boxV b v]) (Rs := Rs) S hbs (perm_of [0, 1] (by show (List.range' 0 2).Perm [0, 1]; decide) (by rfl))
 have C0 := baseC3 (w := w) (b := b) hbs 0 rfl
 clear hbs
 replace S := Lib.hid S
 go_enter Tryz.func32, Tryz.ntmps32
 go_upto_region 1 with fail
 try simp only [World.size_alloc, hb]
 clear hb
 have KR : QuietC w bA 30 #[hpV h, agV v] (.tuple #[.string sx, excN nm]) := Lib.hid fun W Q T => by
  rw [HBS.out] at T ⊢
  exact HREP.out T (Q.length + 1 + i) (atI1 hi)
 refine regionL (E := [boxE (b + 1)]) (base := bA) S.out ?_
 clear S
 refine qa ?_
 refine qc C0 ?_
 refine qa ?_
 refine doneL (h := fun w1 S => ?_)
 replace S := Lib.hid S
 go_upto_region 3 with fail
 refine regionL (E := [boxE (b + 1)]) (base := bA) S.out ?_
 clear S
 refine qa ?_
 refine qc C0 ?_
 refine qk KR ?_
 iterate 3 refine qa ?_
 refine qd undef [boxN (b + 1) nm] (h1 := fun Wx hSw => by (have hz := hSw.box (b := (b + 1)) (o := objE) 0 rfl; refine useZ5 hz fun z0 z1 z2 z3 z4 y0 y1 y2 y3 y4 => ?_; go_simp; exact ⟨rfl, hSw.set5 0 rfl (.string nm) (.int .i64 0) (.int .i64 0) (.string ⟨#[]⟩) (.bool false)⟩)) (h2 := ?_)
 refine doneL (h := fun w2 S => ?_)
 refine useR5 (S.box (b := b + 1) (o := objN nm) 0 rfl) fun r0 r1 r2 r3 r4 => ?_
 replace S := Lib.hid S
 repeat (first | go_values | go_skip | go_guarded | go_step)
 refine bodyPost_ret (v := .tuple #[.string sx, excN nm]) ?_ ?_ ?_
 ·
  simp [results, Tryz.results32, go_sem, r0, r1, r2, r3, r4]
 ·
  rfl
 refine ⟨rfl, ?_⟩
 replace S := S.out
 rw [HBS.out] at S
 exact S.tail.tail
theorem str_s (F : H.Fit N) (hN : N ≤ 4000000) (Sh : H.Short) (S : Sep w Rs W) (i : Nat) (hi : Rs[i]? = some (heapR h H)) (v : V) (hv : v.s.size ≤ 8) :
  Calls Tryz.prog 32 #[.pointer (some ⟨h, 0, none⟩), .agg #[.int .i64 v.kind, .int .i64 v.n, .string v.s]] W fun e W' => e = .returned (H.strV v) ∧ Sep w Rs W' := by
 unfold HeapM.strV
 by_cases hk : v.kind = 3
 ·
  rw [if_pos hk, hk]; exact str_ok S v.s v.n
 ·
  rw [if_neg hk]; exact str_other F hN Sh S i hi v hv hk
end
end Go.Proofs.YtijlebhoapdfnaaGreat
