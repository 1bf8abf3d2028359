/- ch 16: the reference's indices and slices. -/
import Derived.Test.YtijlebhoapdfnaaGreatRSame
import Derived.Test.YtijlebhoapdfnaaGreatIdxM
import Derived.Test.YtijlebhoapdfnaaGreatRef7
import Derived.Test.YtijlebhoapdfnaaGreatRef8
import Derived.Lib.AppendStr
import Derived.Laws.OwnMore
import Derived.Lib.Repeat
import Derived.Test.YtijlebhoapdfnaaGreatOprN
import Derived.Test.YtijlebhoapdfnaaGreatText1
import Derived.Lib.Join
namespace Go.Proofs.YtijlebhoapdfnaaGreat
set_option linter.unusedSimpArgs false
open Go.RowKit
set_option linter.unusedVariables false
end Go.Proofs.YtijlebhoapdfnaaGreat
namespace Go.Proofs.YtijlebhoapdfnaaGreat
set_option linter.unusedSimpArgs false
open Go.RowKit
set_option linter.unusedVariables false
set_option maxHeartbeats 400000
theorem ref_at_ok (s : ByteArray) (i : Int) (w : World) (hs : s.size ≤ maxLen) (hi : 0 ≤ i) (hi' : i < s.size) :
  Calls Tryz.prog 91 #[.string s, .int .i64 i] w fun e w' => e = .returned (.tuple #[.string (s.extract i.toNat (i + 1).toNat), .string ⟨#[]⟩]) ∧ w = w' := by
 unfold maxLen at hs
 go_enter Tryz.func91, Tryz.ntmps91
 go_wp2
 go_ret2
 exact ⟨rfl, rfl⟩
theorem ref_at_neg (s : ByteArray) (i : Int) (w : World) (hs : s.size ≤ maxLen) (hi : i < 0) (hi' : 0 ≤ i + s.size) :
  Calls Tryz.prog 91 #[.string s, .int .i64 i] w fun e w' => e = .returned (.tuple #[.string (s.extract (i + s.size).toNat (i + s.size + 1).toNat), .string ⟨#[]⟩]) ∧ w = w' := by
 unfold maxLen at hs
 go_enter Tryz.func91, Tryz.ntmps91
 go_wp2
 go_ret2
 exact ⟨rfl, rfl⟩
theorem ref_at_out (s : ByteArray) (i : Int) (w : World) (hs : s.size ≤ maxLen) (hlo : -9223372036854775808 ≤ i) (hi : i + s.size < 0 ∨ s.size ≤ i) :
  Calls Tryz.prog 91 #[.string s, .int .i64 i] w fun e w' => e = .returned (.tuple #[.string ⟨#[]⟩, .string ⟨#[73, 110, 100, 101, 120, 69, 114, 114, 111, 114]⟩]) ∧ w = w' := by
 unfold maxLen at hs
 rcases hi with hi | hi
 ·
  have h2 : i < 0 := by omega
  go_enter Tryz.func91, Tryz.ntmps91
  go_wp2
  go_ret2
  exact ⟨rfl, rfl⟩
 ·
  have h2 : ¬ i < 0 := by omega
  go_enter Tryz.func91, Tryz.ntmps91
  go_wp2
  go_ret2
  exact ⟨rfl, rfl⟩
theorem ref_place (n i : Int) (w : World) (hn : 0 ≤ n) (hn' : n ≤ 9223372036854775807) (hi : -9223372036854775808 ≤ i) (hi' : i ≤ 9223372036854775807) :
  Calls Tryz.prog 156 #[.int .i64 n, .int .i64 i] w fun e w' => e = .returned (.int .i64 (placeI n i)) ∧ w = w' := by
 have hz : i < 0 → i + n ≤ n := by omega
 go_enter Tryz.func156, Tryz.ntmps156
 go_wp2
 all_goals (go_ret; exact ⟨ret_i (by unfold placeI; (repeat' split) <;> omega), rfl⟩)
theorem ref_bounds (n f t : Int) (w : World) (hn : -9223372036854775808 ≤ n) (hn' : n ≤ 9223372036854775807) (hf : -9223372036854775808 ≤ f) (hf' : f ≤ 9223372036854775807) (ht : -9223372036854775808 ≤ t) (ht' : t ≤ 9223372036854775807) :
  Calls Tryz.prog 103 #[.int .i64 n, .int .i64 f, .int .i64 t] w fun e w' => e = .returned (.tuple #[.int .i64 (placeI (max n 0) f), .int .i64 (max (placeI (max n 0) f) (placeI (max n 0) t))]) ∧ w = w' := by
 have key : ∀ m : Int, 0 ≤ m → m ≤ 9223372036854775807 → (0 ≤ n ∧ m = n ∨ n < 0 ∧ m = 0) → ∀ (w : World), Calls Tryz.prog 103 #[.int .i64 n, .int .i64 f, .int .i64 t] w fun e w' => e = .returned (.tuple #[.int .i64 (placeI m f), .int .i64 (max (placeI m f) (placeI m t))]) ∧ w = w' := by
  intro m h0 h1 h2 w
  have p1 := placeI_le m f h0
  have p2 := placeI_le m t h0
  rcases h2 with ⟨h2, h3⟩ | ⟨h2, h3⟩
  all_goals
   subst h3
   go_enter Tryz.func103, Tryz.ntmps103
   go_wp2_with fail
   refine (ref_place _ f _ h0 h1 (by omega) (by omega)).mono ?_
   rintro e w' ⟨rfl, rfl⟩
   go_wp2_with fail
   refine (ref_place _ t _ h0 h1 (by omega) (by omega)).mono ?_
   rintro e w' ⟨rfl, rfl⟩
   go_wp2
   all_goals (go_ret2; exact ⟨ret_ii rfl (by omega), rfl⟩)
 exact key (max n 0) (by omega) (by omega) (by omega) w
theorem ref_slice (s : ByteArray) (f t : Int) (w : World) (hs : s.size ≤ maxLen) (hf : -9223372036854775808 ≤ f) (hf' : f ≤ 9223372036854775807) (ht : -9223372036854775808 ≤ t) (ht' : t ≤ 9223372036854775807) :
  Calls Tryz.prog 102 #[.string s, .int .i64 f, .int .i64 t] w fun e w' => e = .returned (.string (s.extract (lowI s f).toNat (highI s f t).toNat)) ∧ w = w' := by
 unfold maxLen at hs
 have hb := lowI_le s f t
 go_enter Tryz.func102, Tryz.ntmps102
 go_wp2_with fail
 refine (ref_bounds s.size f t _ (by omega) (by omega) hf hf' ht ht').mono ?_
 rintro e w' ⟨rfl, rfl⟩
 rw [show placeI (max (s.size : Int) 0) f = lowI s f from rfl, show max (lowI s f) (placeI (max (s.size : Int) 0) t) = highI s f t from rfl]
 go_wp2
 go_ret
 exact ⟨rfl, rfl⟩
end Go.Proofs.YtijlebhoapdfnaaGreat
set_option maxRecDepth 100000
set_option maxHeartbeats 12800000
namespace Go.Proofs.YtijlebhoapdfnaaGreat
set_option linter.unusedSimpArgs false
open Go.RowKit
set_option linter.unusedVariables false
section
variable {w W : World} {Rs : List Res} {h : Nat} {H : HeapM}
theorem Sep.ySetAt (S : Sep w Rs W) (i : Nat) (hi : Rs[i]? = some (refR h H)) {N : Nat} (G : H.Good N) (v : V) (j : Int) (x : V) (hj : okI j) :
  Calls Tryz.prog 108 #[.pointer (some ⟨h, 0, none⟩), v.val, .int .i64 j, x.val] W fun e W' => e = .returned (.bool (H.inItems v j)) ∧ Sep w (Rs.set i (refR h (H.setAt v j x))) W' := by
 have S0 : Sep w (refR h H :: Rs.eraseIdx i) W := S.perm (perm_pull hi)
 exact (ref_setAt S0 G.ok.nk v j x hj).mono fun e W' ⟨e1, e2⟩ => ⟨e1, e2.perm (perm_push hi).symm⟩
theorem Sep.yDel (S : Sep w Rs W) (i : Nat) (hi : Rs[i]? = some (refR h H)) {N : Nat} (F : H.Fit N) (v k : V) :
  Calls Tryz.prog 112 #[.pointer (some ⟨h, 0, none⟩), v.val, k.val] W fun e W' => e = .returned (.bool (H.has v k)) ∧ Sep w (Rs.set i (refR h (H.del v k))) W' := by
 have S0 : Sep w (refR h H :: Rs.eraseIdx i) W := S.perm (perm_pull hi)
 exact (ref_del S0 F.G.ok.nk F.P v k).mono fun e W' ⟨e1, e2⟩ => ⟨e1, e2.perm (perm_push hi).symm⟩
theorem ryat (S : Sep w Rs W) (i : Nat) (hi : Rs[i]? = some (refR h H)) (v : V) (k : Int) (hk : okI k) : Calls Tryz.prog 92 #[.pointer (some ⟨h, 0, none⟩), v.val, .int .i64 k] W fun e W' => e = .returned (.tuple #[((H.at v k).getD V.zero).val, .bool (H.at v k).isSome]) ∧ Sep w Rs W' := by
 obtain ⟨F, h1, _⟩ := S.get i hi
 exact (ref_at W h v k hk h1).mono fun e W' ⟨e1, e2⟩ => ⟨e1, S.later e2⟩
theorem rowO_eq {k j : Int} (h : k = j) (hk : okI k) (hj : okI j) (l : List V) : rowO k hk l = rowO j hj l := by subst h; rfl
theorem rplace_ok (W : World) (n : Nat) (i : Int) (hn : n ≤ 9000000) (hi : (Lit.int .i64 i).wf = true) : Calls Tryz.prog 93 #[.int .i64 n, .int .i64 i] W fun e W' => e = .returned (.int .i64 (if inP n i = true then placeP n i else -1)) ∧ W' = W := by
 have hb : -9223372036854775808 ≤ i ∧ i ≤ 9223372036854775807 := okI_range hi
 have hnn : (n : Int) ≤ 9000000 := by omega
 by_cases h0 : i < 0
 ·
  have hw : IntKind.i64.wrap (i + n) = i + n := IntWalk.i64_in _ (by omega)
  by_cases h1 : i + n < 0
  ·
   have e : (if inP n i = true then placeP n i else -1) = -1 := by unfold inP placeP; rw [if_pos h0]; rw [if_neg (by simp; omega)]
   rw [e]; clear e
   go_enter Tryz.func93, Tryz.ntmps93
   go_wp2
   go_ret
   exact ⟨rfl, rfl⟩
  ·
   have e : (if inP n i = true then placeP n i else -1) = i + n := by unfold inP placeP; rw [if_pos h0]; rw [if_pos (by simp; omega)]
   have h2 : ¬ (n : Int) ≤ i + n := by omega
   rw [e]; clear e
   go_enter Tryz.func93, Tryz.ntmps93
   go_wp2
   go_ret
   exact ⟨rfl, rfl⟩
 ·
  by_cases h2 : (n : Int) ≤ i
  ·
   have e : (if inP n i = true then placeP n i else -1) = -1 := by unfold inP placeP; rw [if_neg h0]; rw [if_neg (by simp; omega)]
   rw [e]; clear e
   go_enter Tryz.func93, Tryz.ntmps93
   go_wp2
   go_ret
   exact ⟨rfl, rfl⟩
  ·
   have e : (if inP n i = true then placeP n i else -1) = i := by unfold inP placeP; rw [if_neg h0]; rw [if_pos (by simp; omega)]
   rw [e]; clear e
   go_enter Tryz.func93, Tryz.ntmps93
   go_wp2
   go_ret
   exact ⟨rfl, rfl⟩
theorem rstr_z (W : World) (s : ByteArray) : Calls Tryz.prog 57 #[.string s] W fun e W' => e = .returned (.agg #[.int .i64 3, .int .i64 0, .string s]) ∧ Below W.heap.size W W' := by
 go_enter Tryz.func57, Tryz.ntmps57
 go_wp2
 exact bodyPost_ret (v := .agg #[.int .i64 3, .int .i64 0, .string s]) (by simp [results, Tryz.results57, go_sem]) rfl ⟨rfl, by exact belowA⟩
/-- At, of the document's: the byte, or IndexError. -/
theorem rat_ok (W : World) (s : ByteArray) (i : Int) (hs : s.size ≤ 9000000) (hi : okI i) : Calls Tryz.prog 91 #[.string s, .int .i64 i] W fun e W' => e = .returned (.tuple #[.string (atS s i), .string (if inP s.size i = true then ⟨#[]⟩ else indexError)]) ∧ W' = W := by
 have hb : -9223372036854775808 ≤ i ∧ i ≤ 9223372036854775807 := okI_range hi
 have hm : s.size ≤ maxLen := by unfold maxLen; omega
 unfold atS
 by_cases hp : inP s.size i = true
 ·
  rw [if_pos hp, if_pos hp]
  by_cases h0 : i < 0
  ·
   have hp2 := hp
   unfold inP placeP at hp2
   rw [if_pos h0] at hp2
   simp at hp2
   have e : placeP s.size i = i + s.size := by unfold placeP; rw [if_pos h0]
   rw [e]
   exact (ref_at_neg s i W hm h0 (by omega)).mono fun e W' ⟨e1, e2⟩ => ⟨e1, e2.symm⟩
  ·
   have hp2 := hp
   unfold inP placeP at hp2
   rw [if_neg h0] at hp2
   simp at hp2
   have e : placeP s.size i = i := by unfold placeP; rw [if_neg h0]
   rw [e]
   exact (ref_at_ok s i W hm (by omega) (by omega)).mono fun e W' ⟨e1, e2⟩ => ⟨e1, e2.symm⟩
 ·
  rw [if_neg hp, if_neg hp]
  refine (ref_at_out s i W hm hb.1 ?_).mono fun e W' ⟨e1, e2⟩ => ⟨e1, e2.symm⟩
  unfold inP placeP at hp
  simp at hp
  split at hp <;> omega
theorem SeesV.cutC {W : World} {a : Option Addr} {n c : Nat} {l : List V} (h : SeesV W (.slice a n c) l) (hn : l.length = n) {i k : Nat} (hik : i ≤ k) (hk : k ≤ n) (hc : k ≤ c) : SeesV W (.slice (Proofs.YtijlebhoapdfnaaGreat.cutAt a i c) (k - i) (c - i)) ((l.drop i).take (k - i)) := by
 subst hn
 obtain ⟨b, e, hs⟩ := h.rows.part hik hk hc (Nat.le_refl c)
 have e1 : sliced a i k c 3 = .slice (Proofs.YtijlebhoapdfnaaGreat.cutAt a i c) (k - i) (c - i) := rfl
 rw [e1] at e
 obtain ⟨e2, _, _⟩ := Value.slice.inj e
 rw [e2]
 exact hs.vals
attribute [local irreducible] wpSeqS wpAnyS wpPreS
theorem rlost_ok (S : Sep w Rs W) (x : V) : Calls Tryz.prog 96 #[.agg #[.int .i64 x.kind, .int .i64 x.n, .string x.s]] W fun e W' => e = .returned (ansK x).exc ∧ Sep w Rs W' := by
 obtain ⟨b, hb⟩ : ∃ gx_, (W.heap.size) = gx_ := ⟨_, rfl⟩
 replace S := ((S.alloc (.cells #[.int .i64 x.kind, .int .i64 x.n, .string x.s] 24)).alloc (.cells #[.string ⟨#[]⟩, .int .i64 0, .int .i64 0, .string ⟨#[]⟩, .bool false] 33))
 simp only [World.size_alloc, hb] at S
 obtain ⟨bA, hbs⟩ : ∃ l, l = boxV b x :: Rs := ⟨_, rfl⟩
 have HBS := Lib.hid hbs
 replace S := enterP (w := w) (all := [boxE (b + 1), boxV b x]) (E := [boxE (b + 1)]) (B := [boxV b x]) (Rs := Rs) S hbs (perm_of [0, 1] (by show (List.range' 0 2).Perm [0, 1]; decide) (by rfl))
 have C0 := baseC3 (w := w) (b := b) hbs 0 rfl
 clear hbs
 replace S := Lib.hid S
 go_enter Tryz.func96, Tryz.ntmps96
 go_upto_region 1 with fail
 try simp only [World.size_alloc, hb]
 clear hb
 refine regionL (E := [boxE (b + 1)]) (base := bA) S.out ?_
 clear S
 refine qc C0 ?_
 refine qa ?_
 refine qd undef [boxX (b + 1) keyError x.kind x.n x.s true] (h1 := fun Wx hSw => by (have hz := hSw.box (b := (b + 1)) (o := objE) 0 rfl; refine useZ5 hz fun z0 z1 z2 z3 z4 y0 y1 y2 y3 y4 => ?_; go_simp; exact ⟨rfl, hSw.set5 0 rfl (.string keyError) (.int .i64 x.kind) (.int .i64 x.n) (.string x.s) (.bool true)⟩)) (h2 := ?_)
 refine doneL (h := fun w1 S => ?_)
 refine useR5 (S.box (b := b + 1) (o := objX keyError x.kind x.n x.s true) 0 rfl) fun r0 r1 r2 r3 r4 => ?_
 replace S := Lib.hid S
 repeat (first | go_values | go_skip | go_guarded | go_step)
 refine bodyPost_ret (v := .agg #[.string keyError, .int .i64 x.kind, .int .i64 x.n, .string x.s, .bool true]) ?_ ?_ ?_
 ·
  simp [results, Tryz.results96, go_sem, r0, r1, r2, r3, r4]
 ·
  rfl
 refine ⟨rfl, ?_⟩
 replace S := S.out
 rw [HBS.out] at S
 exact S.tail.tail
theorem rtold_z (S : Sep w Rs W) (x : V) : Calls Tryz.prog 51 #[.agg #[.int .i64 x.kind, .int .i64 x.n, .string x.s], .string ⟨#[]⟩] W fun e W' => e = .returned (ansV x).val ∧ Sep w Rs W' := by
 obtain ⟨b, hb⟩ : ∃ gx_, (W.heap.size) = gx_ := ⟨_, rfl⟩
 replace S := (((S.alloc (.cells #[.int .i64 x.kind, .int .i64 x.n, .string x.s] 24)).alloc (.cells #[.int .i64 0, .int .i64 0, .string ⟨#[]⟩] 24)).alloc (.cells #[.string ⟨#[]⟩, .int .i64 0, .int .i64 0, .string ⟨#[]⟩, .bool false] 33))
 simp only [World.size_alloc, hb] at S
 obtain ⟨bA, hbs⟩ : ∃ l, l = boxV b x :: Rs := ⟨_, rfl⟩
 have HBS := Lib.hid hbs
 replace S := enterP (w := w) (all := [boxE (b + 1 + 1), boxZ (b + 1), boxV b x]) (E := [boxE (b + 1 + 1), boxZ (b + 1)]) (B := [boxV b x]) (Rs := Rs) S hbs (perm_of [0, 1, 2] (by show (List.range' 0 3).Perm [0, 1, 2]; decide) (by rfl))
 have C0 := baseC3 (w := w) (b := b) hbs 0 rfl
 clear hbs
 replace S := Lib.hid S
 go_enter Tryz.func51, Tryz.ntmps51
 go_upto_region 1 with fail
 try simp only [World.size_alloc, hb]
 clear hb
 go_upto_region 3 with fail
 refine regionL (E := [boxE (b + 1 + 1), boxZ (b + 1)]) (base := bA) S.out ?_
 clear S
 refine qc C0 ?_
 refine qa ?_
 refine qd undef [boxE (b + 1 + 1), boxV (b + 1) x] (h1 := fun Wx hSw => by (have hz := hSw.box (b := (b + 1)) (o := objZ) 1 rfl; refine useZ3 hz fun z0 z1 z2 y0 y1 y2 => ?_; go_simp; exact ⟨rfl, hSw.set3 1 rfl (.int .i64 x.kind) (.int .i64 x.n) (.string x.s)⟩)) (h2 := ?_)
 refine qd undef [boxE (b + 1 + 1), boxV (b + 1) x] (h1 := fun Wx hSw => by (have hz := hSw.box (b := (b + 1 + 1)) (o := objE) 0 rfl; refine useZ5 hz fun z0 z1 z2 z3 z4 y0 y1 y2 y3 y4 => ?_; go_simp; exact ⟨rfl, hSw.set5 0 rfl (.string ⟨#[]⟩) (.int .i64 0) (.int .i64 0) (.string ⟨#[]⟩) (.bool false)⟩)) (h2 := ?_)
 refine doneL (h := fun w1 S => ?_)
 refine useR3 (S.box (b := b + 1) (o := objV x) 1 rfl) fun r0 r1 r2 => ?_
 refine useR5 (S.box (b := b + 1 + 1) (o := objE) 0 rfl) fun r3 r4 r5 r6 r7 => ?_
 replace S := Lib.hid S
 repeat (first | go_values | go_skip | go_guarded | go_step)
 refine bodyPost_ret (v := .tuple #[.agg #[.int .i64 x.kind, .int .i64 x.n, .string x.s], excZ]) ?_ ?_ ?_
 ·
  simp [results, Tryz.results51, go_sem, r0, r1, r2, r3, r4, r5, r6, r7]
 ·
  rfl
 refine ⟨rfl, ?_⟩
 replace S := S.out
 rw [HBS.out] at S
 exact S.tail.tail.tail
theorem rtold_n (S : Sep w Rs W) (x : V) (nm : ByteArray) (hn : nm.toList ≠ []) : Calls Tryz.prog 51 #[.agg #[.int .i64 x.kind, .int .i64 x.n, .string x.s], .string nm] W fun e W' => e = .returned (ansN nm).val ∧ Sep w Rs W' := by
 have hne : (nm.toList != []) = true := by simpa using hn
 have hne2 : nm.toList.isEmpty = false := by cases h : nm.toList <;> simp_all
 obtain ⟨b, hb⟩ : ∃ gx_, (W.heap.size) = gx_ := ⟨_, rfl⟩
 replace S := (((S.alloc (.cells #[.int .i64 x.kind, .int .i64 x.n, .string x.s] 24)).alloc (.cells #[.int .i64 0, .int .i64 0, .string ⟨#[]⟩] 24)).alloc (.cells #[.string ⟨#[]⟩, .int .i64 0, .int .i64 0, .string ⟨#[]⟩, .bool false] 33))
 simp only [World.size_alloc, hb] at S
 obtain ⟨bA, hbs⟩ : ∃ l, l = boxV b x :: Rs := ⟨_, rfl⟩
 have HBS := Lib.hid hbs
 replace S := enterP (w := w) (all := [boxE (b + 1 + 1), boxZ (b + 1), boxV b x]) (E := [boxE (b + 1 + 1), boxZ (b + 1)]) (B := [boxV b x]) (Rs := Rs) S hbs (perm_of [0, 1, 2] (by show (List.range' 0 3).Perm [0, 1, 2]; decide) (by rfl))
 have C0 := baseC3 (w := w) (b := b) hbs 0 rfl
 clear hbs
 replace S := Lib.hid S
 go_enter Tryz.func51, Tryz.ntmps51
 go_upto_region 1 with fail
 try simp only [World.size_alloc, hb]
 clear hb
 have KE : QuietC w bA 94 #[.string nm] (excN nm) := Lib.hid fun W Q T => by
  exact rexc_ok T nm
 go_upto_region 2 with fail
 refine regionL (E := [boxE (b + 1 + 1), boxZ (b + 1)]) (base := bA) S.out ?_
 clear S
 iterate 2 refine qa ?_
 refine qk KE ?_
 refine qd undef [boxE (b + 1 + 1), boxZ (b + 1)] (h1 := fun Wx hSw => by (have hz := hSw.box (b := (b + 1)) (o := objZ) 1 rfl; refine useZ3 hz fun z0 z1 z2 y0 y1 y2 => ?_; go_simp; exact ⟨rfl, hSw.set3 1 rfl (.int .i64 0) (.int .i64 0) (.string ⟨#[]⟩)⟩)) (h2 := ?_)
 refine qd undef [boxN (b + 1 + 1) nm, boxZ (b + 1)] (h1 := fun Wx hSw => by (have hz := hSw.box (b := (b + 1 + 1)) (o := objE) 0 rfl; refine useZ5 hz fun z0 z1 z2 z3 z4 y0 y1 y2 y3 y4 => ?_; go_simp; exact ⟨rfl, hSw.set5 0 rfl (.string nm) (.int .i64 0) (.int .i64 0) (.string ⟨#[]⟩) (.bool false)⟩)) (h2 := ?_)
 refine doneL (h := fun w1 S => ?_)
 replace S := Lib.hid S
 clear hne hne2 hn
 replace S := S.out
 refine useR3 (S.box (b := b + 1) (o := objZ) 1 rfl) fun r0 r1 r2 => ?_
 refine useR5 (S.box (b := b + 1 + 1) (o := objN nm) 0 rfl) fun r3 r4 r5 r6 r7 => ?_
 replace S := Lib.hid S
 repeat (first | go_values | go_skip | go_guarded | go_step)
 refine bodyPost_ret (v := .tuple #[zeroV, excN nm]) ?_ ?_ ?_
 ·
  simp [results, Tryz.results51, go_sem, r0, r1, r2, r3, r4, r5, r6, r7]
 ·
  rfl
 refine ⟨rfl, ?_⟩
 replace S := S.out
 rw [HBS.out] at S
 exact S.tail.tail.tail
theorem rbound_z (S : Sep w Rs W) (x : V) (n : Int) (hx : x.kind = 0) : Calls Tryz.prog 101 #[.agg #[.int .i64 x.kind, .int .i64 x.n, .string x.s], .int .i64 n] W fun e W' => e = .returned (.tuple #[.int .i64 n, .bool true]) ∧ Sep w Rs W' := by
 have hz : (x.kind == 0) = true := by simp [hx]
 clear hx
 obtain ⟨b, hb⟩ : ∃ gx_, (W.heap.size) = gx_ := ⟨_, rfl⟩
 replace S := (S.alloc (.cells #[.int .i64 x.kind, .int .i64 x.n, .string x.s] 24))
 simp only [World.size_alloc, hb] at S
 obtain ⟨bA, hbs⟩ : ∃ l, l = boxV b x :: Rs := ⟨_, rfl⟩
 have HBS := Lib.hid hbs
 replace S := enterP (w := w) (all := [boxV b x]) (E := []) (B := [boxV b x]) (Rs := Rs) S hbs (perm_of [0] (by show (List.range' 0 1).Perm [0]; decide) (by rfl))
 have C0 := baseC3 (w := w) (b := b) hbs 0 rfl
 clear hbs
 replace S := Lib.hid S
 go_enter Tryz.func101, Tryz.ntmps101
 go_upto_region 1 with fail
 try simp only [World.size_alloc, hb]
 clear hb
 refine regionL (E := []) (base := bA) S.out ?_
 clear S
 refine qa ?_
 refine qc C0 ?_
 refine qa ?_
 refine doneL (h := fun w1 S => ?_)
 replace S := Lib.hid S
 clear hz
 replace S := S.out
 replace S := Lib.hid S
 go_wp2
 refine bodyPost_ret (v := .tuple #[.int .i64 n, .bool true]) ?_ ?_ ?_
 ·
  simp [results, Tryz.results101, go_sem]
 ·
  rfl
 refine ⟨rfl, ?_⟩
 replace S := S.out
 rw [HBS.out] at S
 exact S.tail
theorem rbound_n (S : Sep w Rs W) (x : V) (n : Int) (hx : ¬ x.kind = 0) : Calls Tryz.prog 101 #[.agg #[.int .i64 x.kind, .int .i64 x.n, .string x.s], .int .i64 n] W fun e W' => e = .returned (.tuple #[.int .i64 x.n, .bool (decide (x.kind = 2))]) ∧ Sep w Rs W' := by
 have hz : (x.kind == 0) = false := by simpa using hx
 obtain ⟨e2, he2⟩ : ∃ b, b = (x.kind == 2) := ⟨_, rfl⟩
 have HE2 := Lib.hid he2
 have hd : decide (x.kind = 2) = e2 := by rw [he2]; rfl
 rw [hd]
 clear he2 hd
 clear hx
 obtain ⟨b, hb⟩ : ∃ gx_, (W.heap.size) = gx_ := ⟨_, rfl⟩
 replace S := (S.alloc (.cells #[.int .i64 x.kind, .int .i64 x.n, .string x.s] 24))
 simp only [World.size_alloc, hb] at S
 obtain ⟨bA, hbs⟩ : ∃ l, l = boxV b x :: Rs := ⟨_, rfl⟩
 have HBS := Lib.hid hbs
 replace S := enterP (w := w) (all := [boxV b x]) (E := []) (B := [boxV b x]) (Rs := Rs) S hbs (perm_of [0] (by show (List.range' 0 1).Perm [0]; decide) (by rfl))
 have C0 := baseC3 (w := w) (b := b) hbs 0 rfl
 clear hbs
 replace S := Lib.hid S
 go_enter Tryz.func101, Tryz.ntmps101
 go_upto_region 1 with fail
 try simp only [World.size_alloc, hb]
 clear hb
 refine regionL (E := []) (base := bA) S.out ?_
 clear S
 refine qa ?_
 refine qc C0 ?_
 refine qa ?_
 refine doneL (h := fun w1 S => ?_)
 replace S := Lib.hid S
 clear hz
 go_upto_region 3 with fail
 refine regionP 7 0 (E := []) (base := bA) S.out ?_
 clear S
 refine qp ?_
 refine qpc C0 ?_
 refine qp ?_
 refine qpc C0 ?_
 refine qp (v := .bool e2) (hy := fun E Wx hSw => by (go_simp; rw [HE2.out]; exact ⟨rfl, hSw⟩)) (h := ?_)
 iterate 2 refine qp ?_
 refine endP ?_
 refine doneS (h := fun w2 S => ?_)
 replace S := Lib.hid S
 go_wp2
 refine bodyPost_ret (v := .tuple #[.int .i64 x.n, .bool e2]) ?_ ?_ ?_
 ·
  simp [results, Tryz.results101, go_sem]
 ·
  rfl
 refine ⟨rfl, ?_⟩
 replace S := S.out
 rw [HBS.out] at S
 exact S.tail
theorem rbound_ok (S : Sep w Rs W) (x : V) (n m : Int) (b : Bool) (hm : endN x n = m) (hb : endB x = b) : Calls Tryz.prog 101 #[.agg #[.int .i64 x.kind, .int .i64 x.n, .string x.s], .int .i64 n] W fun e W' => e = .returned (.tuple #[.int .i64 m, .bool b]) ∧ Sep w Rs W' := by
 subst hm hb
 unfold endN endB
 by_cases hx : x.kind = 0
 ·
  simpa [hx] using rbound_z S x n hx
 ·
  simpa [hx] using rbound_n S x n hx
theorem ridx_ok (S : Sep w Rs W) (i : Nat) (hi : Rs[i]? = some (refR h H)) {N : Nat} (G : H.Good N) (hN : N ≤ 4000000) (x y : V) (hsz : x.s.size ≤ 9000000) (r : AnsM) (hr : H.idxM x y = r) : Calls Tryz.prog 18 #[.pointer (some ⟨h, 0, none⟩), .agg #[.int .i64 x.kind, .int .i64 x.n, .string x.s], .agg #[.int .i64 y.kind, .int .i64 y.n, .string y.s]] W fun e W' => e = .returned r.val ∧ Sep w Rs W' := by
 have HR := Lib.hid hr
 clear hr
 obtain ⟨p, hp⟩ : ∃ b, decide (x.kind = 3 ∧ y.kind = 2) = b := ⟨_, rfl⟩
 have HP_ := Lib.hid hp
 clear hp
 obtain ⟨rk, hrk⟩ : ∃ zz_, (if H.rowB x = true then H.kind x else 0) = zz_ := ⟨_, rfl⟩
 have Hrk_ := Lib.hid hrk
 clear hrk
 obtain ⟨X1, hX1⟩ : ∃ zz_, H.items x = zz_ := ⟨_, rfl⟩
 have HX1_ := Lib.hid hX1
 clear hX1
 obtain ⟨kx, hkx⟩ : ∃ zz_, H.kind x = zz_ := ⟨_, rfl⟩
 have Hkx_ := Lib.hid hkx
 clear hkx
 obtain ⟨ky, hky⟩ : ∃ zz_, y.isKey = zz_ := ⟨_, rfl⟩
 have Hky_ := Lib.hid hky
 clear hky
 have HL : Hid (X1.length ≤ 4000000) := Lib.hid (by rw [← HX1_.out]; have := G.items x; omega)
 have HSZ := Lib.hid hsz
 clear hsz
 obtain ⟨b, hb⟩ : ∃ gx_, (W.heap.size) = gx_ := ⟨_, rfl⟩
 replace S := ((((S.alloc (.cells #[.int .i64 x.kind, .int .i64 x.n, .string x.s] 24)).alloc (.cells #[.int .i64 y.kind, .int .i64 y.n, .string y.s] 24)).alloc (.cells #[.int .i64 0, .int .i64 0, .string ⟨#[]⟩] 24)).alloc (.cells #[.string ⟨#[]⟩, .int .i64 0, .int .i64 0, .string ⟨#[]⟩, .bool false] 33))
 simp only [World.size_alloc, hb] at S
 obtain ⟨bA, hbs⟩ : ∃ l, l = boxV (b + 1) y :: boxV b x :: Rs := ⟨_, rfl⟩
 have HBS := Lib.hid hbs
 replace S := enterP (w := w) (all := [boxE (b + 1 + 1 + 1), boxZ (b + 1 + 1), boxV (b + 1) y, boxV b x]) (E := [boxE (b + 1 + 1 + 1), boxZ (b + 1 + 1)]) (B := [boxV (b + 1) y, boxV b x]) (Rs := Rs) S hbs (perm_of [0, 1, 2, 3] (by show (List.range' 0 4).Perm [0, 1, 2, 3]; decide) (by rfl))
 have C1 := baseC3 (w := w) (b := b + 1) hbs 0 rfl
 have C0 := baseC3 (w := w) (b := b) hbs 1 rfl
 clear hbs
 replace S := Lib.hid S
 go_enter Tryz.func18, Tryz.ntmps18
 go_upto_region 1 with fail
 try simp only [World.size_alloc, hb]
 clear hb
 go_upto_region 1 with fail
 go_cut [14] (fun s14 wx => s14 = .bool p ∧ Sep w ([boxE (b + 1 + 1 + 1), boxZ (b + 1 + 1)] ++ bA) wx)
 case first =>
  by_cases h3 : x.kind = 3
  ·
   have e1 : (x.kind == 3) = true := by simp [h3]
   obtain ⟨q, hq⟩ : ∃ b, b = (y.kind == 2) := ⟨_, rfl⟩
   have HQ := Lib.hid hq
   obtain rfl : p = q := by rw [hq, ← HP_.out]; simp [h3]; rfl
   clear hq h3
   refine regionL (E := [boxE (b + 1 + 1 + 1), boxZ (b + 1 + 1)]) (base := bA) S.out ?_
   clear S
   refine qa ?_
   refine qc C0 ?_
   iterate 3 refine qa ?_
   refine qc C1 ?_
   refine qa (v := .bool p) (hy := fun E Wx hSw => by (go_simp; rw [HQ.out]; exact ⟨rfl, hSw⟩)) (h := ?_)
   iterate 2 refine qa ?_
   refine doneL (h := fun w1 S => ?_)
   replace S := Lib.hid S
   go_wp2_with fail
   go_meet
   exact ⟨rfl, S.out⟩
  ·
   have e1 : (x.kind == 3) = false := by simp [h3]
   obtain rfl : p = false := by rw [← HP_.out]; simp [h3]
   clear h3
   refine regionL (E := [boxE (b + 1 + 1 + 1), boxZ (b + 1 + 1)]) (base := bA) S.out ?_
   clear S
   refine qa ?_
   refine qc C0 ?_
   iterate 2 refine qa ?_
   iterate 3 refine qz ?_
   iterate 2 refine qa ?_
   refine doneL (h := fun w2 S => ?_)
   replace S := Lib.hid S
   go_wp2_with fail
   go_meet
   exact ⟨rfl, S.out⟩
 case rest =>
  obtain ⟨rfl, S⟩ := hcut
  replace S := Lib.hid S
  cases p with
  | true =>
   obtain ⟨hx3, hy2⟩ : x.kind = 3 ∧ y.kind = 2 := by simpa using HP_.out
   have hv : r = if inP x.s.size y.n = true then ansV (sV (atS x.s y.n) (atS_le x y.n)) else ansN indexError := by rw [← HR.out]; unfold HeapM.idxM; rw [if_pos ⟨hx3, hy2⟩]
   obtain ⟨a, ha⟩ : ∃ a, a = atS x.s y.n := ⟨_, rfl⟩
   obtain ⟨nm, hnm⟩ : ∃ m, m = (if inP x.s.size y.n = true then ⟨#[]⟩ else indexError) := ⟨_, rfl⟩
   have KT : QuietC w bA 51 #[.agg #[.int .i64 3, .int .i64 0, .string a], .string nm] (.tuple #[.agg #[.int .i64 r.v.kind, .int .i64 r.v.n, .string r.v.s], .agg #[.string r.nm, .int .i64 r.ar.kind, .int .i64 r.ar.n, .string r.ar.s, .bool r.has]]) := Lib.hid fun W Q T => by
    by_cases hi : inP x.s.size y.n = true
    ·
     rw [if_pos hi] at hv hnm; subst hv hnm ha; exact rtold_z T (sV (atS x.s y.n) (atS_le x y.n))
    ·
     rw [if_neg hi] at hv hnm; subst hv hnm ha; exact rtold_n T (sV (atS x.s y.n) (atS_le x y.n)) indexError (by rw [ByteArray.toList_eq]; decide)
   have HA := Lib.hid ha
   have HNM := Lib.hid hnm
   clear hv ha hnm hx3 hy2
   have KA : QuietC w bA 91 #[.string x.s, .int .i64 y.n] (.tuple #[.string a, .string nm]) := Lib.hid fun W Q T => by
    have hh := rat_ok W x.s y.n HSZ.out y.hn
    rw [← HA.out, ← HNM.out] at hh
    exact hh.mono fun e W' ⟨e1, e2⟩ => ⟨e1, by rw [e2]; exact T⟩
   go_upto_region 2 with fail
   refine regionL (E := [boxE (b + 1 + 1 + 1), boxZ (b + 1 + 1)]) (base := bA) S.out ?_
   clear S
   refine qa ?_
   refine qc C0 ?_
   refine qa ?_
   refine qc C1 ?_
   refine qk KA ?_
   iterate 5 refine qa ?_
   refine doneL (h := fun w3 S => ?_)
   replace S := Lib.hid S
   have KS : QuietC w bA 57 #[.string a] (.agg #[.int .i64 3, .int .i64 0, .string a]) := Lib.hid fun W Q T => by
    exact (rstr_z W a).mono fun e W' ⟨e1, e2⟩ => ⟨e1, T.later e2⟩
   go_upto_region 3 with fail
   refine regionL (E := [boxE (b + 1 + 1 + 1), boxZ (b + 1 + 1)]) (base := bA) S.out ?_
   clear S
   refine qa ?_
   refine qk KS ?_
   refine qa ?_
   refine qk KT ?_
   iterate 2 refine qa ?_
   refine qd undef [boxE (b + 1 + 1 + 1), boxW (b + 1 + 1) r.v.kind r.v.n r.v.s] (h1 := fun Wx hSw => by (have hz := hSw.box (b := (b + 1 + 1)) (o := objZ) 1 rfl; refine useZ3 hz fun z0 z1 z2 y0 y1 y2 => ?_; go_simp; exact ⟨rfl, hSw.set3 1 rfl (.int .i64 r.v.kind) (.int .i64 r.v.n) (.string r.v.s)⟩)) (h2 := ?_)
   refine qd undef [boxX (b + 1 + 1 + 1) r.nm r.ar.kind r.ar.n r.ar.s r.has, boxW (b + 1 + 1) r.v.kind r.v.n r.v.s] (h1 := fun Wx hSw => by (have hz := hSw.box (b := (b + 1 + 1 + 1)) (o := objE) 0 rfl; refine useZ5 hz fun z0 z1 z2 z3 z4 y0 y1 y2 y3 y4 => ?_; go_simp; exact ⟨rfl, hSw.set5 0 rfl (.string r.nm) (.int .i64 r.ar.kind) (.int .i64 r.ar.n) (.string r.ar.s) (.bool r.has)⟩)) (h2 := ?_)
   refine doneL (h := fun w4 S => ?_)
   refine useR3 (S.box (b := b + 1 + 1) (o := objW r.v.kind r.v.n r.v.s) 1 rfl) fun r0 r1 r2 => ?_
   refine useR5 (S.box (b := b + 1 + 1 + 1) (o := objX r.nm r.ar.kind r.ar.n r.ar.s r.has) 0 rfl) fun r3 r4 r5 r6 r7 => ?_
   replace S := Lib.hid S
   repeat (first | go_values | go_skip | go_guarded | go_step)
   refine bodyPost_ret (v := .tuple #[.agg #[.int .i64 r.v.kind, .int .i64 r.v.n, .string r.v.s], .agg #[.string r.nm, .int .i64 r.ar.kind, .int .i64 r.ar.n, .string r.ar.s, .bool r.has]]) ?_ ?_ ?_
   ·
    simp [results, Tryz.results18, go_sem, r0, r1, r2, r3, r4, r5, r6, r7]
   ·
    rfl
   refine ⟨rfl, ?_⟩
   replace S := S.out
   rw [HBS.out] at S
   exact S.tail.tail.tail.tail
  | false =>
   obtain ⟨q, hq⟩ : ∃ b, decide (H.rowB x = true ∧ y.kind = 2) = b := ⟨_, rfl⟩
   have HQ_ := Lib.hid hq
   clear hq
   have HNP : Hid (¬ (x.kind = 3 ∧ y.kind = 2)) := Lib.hid (by simpa using HP_.out)
   have KR : QuietC w bA 58 #[hpV h, agV x] (.int .i64 rk) := Lib.hid fun W Q T => by
    rw [HBS.out] at T ⊢
    exact rrow_ok T (Q.length + 2 + i) (atI2 hi) x rk Hrk_.out
   go_upto_region 4 with fail
   go_cut [37] (fun s37 wx => s37 = .bool q ∧ Sep w ([boxE (b + 1 + 1 + 1), boxZ (b + 1 + 1)] ++ bA) wx)
   case first =>
    by_cases h3 : H.rowB x = true
    ·
     have e1 : (rk != 0) = true := by have := HeapM.rowB_kind h3; rw [← Hrk_.out, if_pos h3]; simp; omega
     obtain ⟨u, hu⟩ : ∃ b, b = (y.kind == 2) := ⟨_, rfl⟩
     have HU := Lib.hid hu
     obtain rfl : q = u := by rw [hu, ← HQ_.out]; simp [h3]; rfl
     clear hu h3
     refine regionL (E := [boxE (b + 1 + 1 + 1), boxZ (b + 1 + 1)]) (base := bA) S.out ?_
     clear S
     refine qa ?_
     refine qc C0 ?_
     refine qk KR ?_
     iterate 3 refine qa ?_
     refine qc C1 ?_
     refine qa (v := .bool q) (hy := fun E Wx hSw => by (go_simp; rw [HU.out]; exact ⟨rfl, hSw⟩)) (h := ?_)
     iterate 2 refine qa ?_
     refine doneL (h := fun w5 S => ?_)
     replace S := Lib.hid S
     go_wp2_with fail
     go_meet
     exact ⟨rfl, S.out⟩
    ·
     have e1 : (rk != 0) = false := by rw [← Hrk_.out, if_neg h3]; rfl
     obtain rfl : q = false := by rw [← HQ_.out]; simp [h3]
     clear h3
     refine regionL (E := [boxE (b + 1 + 1 + 1), boxZ (b + 1 + 1)]) (base := bA) S.out ?_
     clear S
     refine qa ?_
     refine qc C0 ?_
     refine qk KR ?_
     iterate 2 refine qa ?_
     iterate 3 refine qz ?_
     iterate 2 refine qa ?_
     refine doneL (h := fun w6 S => ?_)
     replace S := Lib.hid S
     go_wp2_with fail
     go_meet
     exact ⟨rfl, S.out⟩
   case rest =>
    obtain ⟨rfl, S⟩ := hcut
    replace S := Lib.hid S
    cases q with
    | true =>
     obtain ⟨hrow, hy2⟩ : H.rowB x = true ∧ y.kind = 2 := by simpa using HQ_.out
     have hv : r = if inP X1.length y.n = true then ansV ((H.at x (placeP X1.length y.n)).getD V.zero) else ansN indexError := by rw [← HR.out]; unfold HeapM.idxM; rw [if_neg HNP.out, if_pos ⟨hrow, hy2⟩, HX1_.out]
     obtain ⟨j, hj⟩ : ∃ j, (if inP X1.length y.n = true then placeP X1.length y.n else -1) = j := ⟨_, rfl⟩
     have hjo : okI j := by rw [← hj]; split; exact okI_place (by have := HL.out; omega) y.hn; decide
     obtain ⟨z, hz⟩ : ∃ z, (H.at x j).getD V.zero = z := ⟨_, rfl⟩
     obtain ⟨ok, hok⟩ : ∃ b, (H.at x j).isSome = b := ⟨_, rfl⟩
     have hin : ok = inP X1.length y.n := by rw [← hok, ← hj]; exact at_in HX1_.out y.n
     have hv1 : ok = true → r = ansV z := fun e => by rw [hv, if_pos (by rw [← hin]; exact e), ← hz, ← hj, if_pos (by rw [← hin]; exact e)]
     have hv0 : ok = false → r = ansN indexError := fun e => by rw [hv, if_neg (by rw [← hin, e]; decide)]
     have HJ := Lib.hid hj
     have HZ := Lib.hid hz
     have HOK := Lib.hid hok
     have HJO := Lib.hid hjo
     have HV1 := Lib.hid hv1
     have HV0 := Lib.hid hv0
     clear hj hz hok hjo hin hv hv1 hv0 hrow hy2
     have KL : QuietC w bA 66 #[hpV h, agV x] (.int .i64 X1.length) := Lib.hid fun W Q T => by
      rw [HBS.out] at T ⊢
      exact rlen_ok T (Q.length + 2 + i) (atI2 hi) G hN x X1.length (by rw [HX1_.out])
     have KP : QuietC w bA 93 #[.int .i64 X1.length, .int .i64 y.n] (.int .i64 j) := Lib.hid fun W Q T => by
      have hh := rplace_ok W X1.length y.n (by have := HL.out; omega) y.hn
      rw [HJ.out] at hh
      exact hh.mono fun e W' ⟨e1, e2⟩ => ⟨e1, by rw [e2]; exact T⟩
     have KA : QuietC w bA 92 #[hpV h, agV x, .int .i64 j] (.tuple #[.agg #[.int .i64 z.kind, .int .i64 z.n, .string z.s], .bool ok]) := Lib.hid fun W Q T => by
      rw [HBS.out] at T ⊢
      exact (ryat T (Q.length + 2 + i) (atI2 hi) x j HJO.out).mono fun e W' ⟨e1, e2⟩ => ⟨by rw [e1, HZ.out, HOK.out]; rfl, e2⟩
     go_upto_region 5 with fail
     refine regionP 12 3 (E := [emptyR, boxE (b + 1 + 1 + 1), boxZ (b + 1 + 1)]) (base := bA) (Sep.putE S.out) ?_
     clear S
     refine qp ?_
     refine qpc C0 ?_
     refine qp ?_
     refine qpc C0 ?_
     refine qpk KL ?_
     refine qp ?_
     refine qpc C1 ?_
     refine qpk KP ?_
     refine qpk KA ?_
     iterate 3 refine qp ?_
     refine endP ?_
     refine readyS [12] ?_
     refine allocS 0 rfl (fun q => .pointer (some ⟨q, 0, none⟩)) (.cells #[.int .i64 0, .int .i64 0, .string ⟨#[]⟩] 24) (h1 := fun Wx => by go_simp) (h2 := fun qz101 => ?_) (hs := nilS); simp only [Act.put, pa]; try dsimp only [List.set]
     try simp only [List.set_cons_zero, List.set_cons_succ]
     refine readyS [13] ?_
     refine detS undef [boxV qz101 z, boxE (b + 1 + 1 + 1), boxZ (b + 1 + 1)] (h1 := fun Wx hSw => by (have hz := hSw.box (b := qz101) (o := objZ) 0 rfl; refine useZ3 hz fun z0 z1 z2 y0 y1 y2 => ?_; go_simp; exact ⟨rfl, hSw.set3 0 rfl (.int .i64 z.kind) (.int .i64 z.n) (.string z.s)⟩)) (h2 := ?_) (hs := nilS); simp only [Act.put, pa]; try dsimp only [List.set]
     refine qs 14 ?_
     refine doneS (h := fun w7 S => ?_)
     replace S := Lib.hid S
     cases ok with
     | true =>
      obtain rfl := HV1.out rfl
      go_upto_region 8 with fail
      refine regionL (E := [boxV qz101 z, boxE (b + 1 + 1 + 1), boxZ (b + 1 + 1)]) (base := bA) S.out ?_
      clear S
      refine qd _ [boxV qz101 z, boxE (b + 1 + 1 + 1), boxZ (b + 1 + 1)] (h1 := fun Wx hSw => by (have hz := hSw.box (b := qz101) (o := objV z) 0 rfl; have z0 := cellAt hz 0 (v := .int .i64 z.kind) rfl; have z1 := cellAt hz 1 (v := .int .i64 z.n) rfl; have z2 := cellAt hz 2 (v := .string z.s) rfl; go_simp; exact ⟨rfl, hSw⟩)) (h2 := ?_)
      refine qa ?_
      refine qd undef [boxV qz101 z, boxE (b + 1 + 1 + 1), boxV (b + 1 + 1) z] (h1 := fun Wx hSw => by (have hz := hSw.box (b := (b + 1 + 1)) (o := objZ) 2 rfl; refine useZ3 hz fun z0 z1 z2 y0 y1 y2 => ?_; go_simp; exact ⟨rfl, hSw.set3 2 rfl (.int .i64 z.kind) (.int .i64 z.n) (.string z.s)⟩)) (h2 := ?_)
      refine qd undef [boxV qz101 z, boxE (b + 1 + 1 + 1), boxV (b + 1 + 1) z] (h1 := fun Wx hSw => by (have hz := hSw.box (b := (b + 1 + 1 + 1)) (o := objE) 1 rfl; refine useZ5 hz fun z0 z1 z2 z3 z4 y0 y1 y2 y3 y4 => ?_; go_simp; exact ⟨rfl, hSw.set5 1 rfl (.string ⟨#[]⟩) (.int .i64 0) (.int .i64 0) (.string ⟨#[]⟩) (.bool false)⟩)) (h2 := ?_)
      refine doneL (h := fun w8 S => ?_)
      refine useR3 (S.box (b := b + 1 + 1) (o := objV z) 2 rfl) fun r0 r1 r2 => ?_
      refine useR5 (S.box (b := b + 1 + 1 + 1) (o := objE) 1 rfl) fun r3 r4 r5 r6 r7 => ?_
      replace S := Lib.hid S
      repeat (first | go_values | go_skip | go_guarded | go_step)
      refine bodyPost_ret (v := .tuple #[.agg #[.int .i64 z.kind, .int .i64 z.n, .string z.s], excZ]) ?_ ?_ ?_
      ·
       simp [results, Tryz.results18, go_sem, r0, r1, r2, r3, r4, r5, r6, r7]
      ·
       rfl
      refine ⟨rfl, ?_⟩
      replace S := S.out
      rw [HBS.out] at S
      exact S.tail.tail.tail.tail.tail
     | false =>
      obtain rfl := HV0.out rfl
      have KE : QuietC w bA 94 #[.string indexError] (excN indexError) := Lib.hid fun W Q T => by
       exact rexc_ok T _
      go_upto_region 7 with fail
      refine regionL (E := [boxV qz101 z, boxE (b + 1 + 1 + 1), boxZ (b + 1 + 1)]) (base := bA) S.out ?_
      clear S
      refine qa ?_
      refine qk KE ?_
      refine qd undef [boxV qz101 z, boxE (b + 1 + 1 + 1), boxZ (b + 1 + 1)] (h1 := fun Wx hSw => by (have hz := hSw.box (b := (b + 1 + 1)) (o := objZ) 2 rfl; refine useZ3 hz fun z0 z1 z2 y0 y1 y2 => ?_; go_simp; exact ⟨rfl, hSw.set3 2 rfl (.int .i64 0) (.int .i64 0) (.string ⟨#[]⟩)⟩)) (h2 := ?_)
      refine qd undef [boxV qz101 z, boxN (b + 1 + 1 + 1) indexError, boxZ (b + 1 + 1)] (h1 := fun Wx hSw => by (have hz := hSw.box (b := (b + 1 + 1 + 1)) (o := objE) 1 rfl; refine useZ5 hz fun z0 z1 z2 z3 z4 y0 y1 y2 y3 y4 => ?_; go_simp; exact ⟨rfl, hSw.set5 1 rfl (.string indexError) (.int .i64 0) (.int .i64 0) (.string ⟨#[]⟩) (.bool false)⟩)) (h2 := ?_)
      refine doneL (h := fun w9 S => ?_)
      refine useR3 (S.box (b := b + 1 + 1) (o := objZ) 2 rfl) fun r0 r1 r2 => ?_
      refine useR5 (S.box (b := b + 1 + 1 + 1) (o := objN indexError) 1 rfl) fun r3 r4 r5 r6 r7 => ?_
      replace S := Lib.hid S
      repeat (first | go_values | go_skip | go_guarded | go_step)
      refine bodyPost_ret (v := .tuple #[zeroV, excN indexError]) ?_ ?_ ?_
      ·
       simp [results, Tryz.results18, go_sem, r0, r1, r2, r3, r4, r5, r6, r7]
      ·
       rfl
      refine ⟨rfl, ?_⟩
      replace S := S.out
      rw [HBS.out] at S
      exact S.tail.tail.tail.tail.tail
    | false =>
     have HNQ : Hid (¬ (H.rowB x = true ∧ y.kind = 2)) := Lib.hid (by simpa using HQ_.out)
     obtain ⟨d, hd⟩ : ∃ b, decide (H.kind x = 3 ∧ y.isKey = true) = b := ⟨_, rfl⟩
     have HD := Lib.hid hd
     clear hd
     have KK : QuietC w bA 60 #[hpV h, agV x] (.int .i64 kx) := Lib.hid fun W Q T => by
      rw [HBS.out] at T ⊢
      exact rkind_at T (Q.length + 2 + i) (atI2 hi) x kx Hkx_.out
     have KY : QuietC w bA 95 #[agV y] (.bool ky) := Lib.hid fun W Q T => by
      have hh := rkey_ok W y
      rw [Hky_.out] at hh
      exact hh.mono fun e W' ⟨e1, e2⟩ => ⟨e1, T.later e2⟩
     go_upto_region 9 with fail
     go_cut [65] (fun s65 wx => s65 = .bool d ∧ Sep w ([boxE (b + 1 + 1 + 1), boxZ (b + 1 + 1)] ++ bA) wx)
     case first =>
      by_cases h3 : kx = 3
      ·
       have e1 : (kx == 3) = true := by simp [h3]
       obtain rfl : d = ky := by rw [← HD.out, ← Hky_.out]; have := Hkx_.out; rw [h3] at this; simp [this]
       clear h3
       refine regionL (E := [boxE (b + 1 + 1 + 1), boxZ (b + 1 + 1)]) (base := bA) S.out ?_
       clear S
       refine qa ?_
       refine qc C0 ?_
       refine qk KK ?_
       iterate 2 refine qa ?_
       refine qc C1 ?_
       refine qk KY ?_
       iterate 2 refine qa ?_
       refine doneL (h := fun w10 S => ?_)
       replace S := Lib.hid S
       go_wp2_with fail
       go_meet
       exact ⟨rfl, S.out⟩
      ·
       have e1 : (kx == 3) = false := by simp [h3]
       obtain rfl : d = false := by rw [← HD.out]; have := Hkx_.out; simp [this, h3]
       clear h3
       refine regionL (E := [boxE (b + 1 + 1 + 1), boxZ (b + 1 + 1)]) (base := bA) S.out ?_
       clear S
       refine qa ?_
       refine qc C0 ?_
       refine qk KK ?_
       iterate 2 refine qa ?_
       iterate 2 refine qz ?_
       iterate 2 refine qa ?_
       refine doneL (h := fun w11 S => ?_)
       replace S := Lib.hid S
       go_wp2_with fail
       go_meet
       exact ⟨rfl, S.out⟩
     case rest =>
      obtain ⟨rfl, S⟩ := hcut
      replace S := Lib.hid S
      cases d with
      | true =>
       obtain ⟨hk3, hkey⟩ : H.kind x = 3 ∧ y.isKey = true := by simpa using HD.out
       obtain ⟨z, hz⟩ : ∃ z, (H.get x y).getD V.zero = z := ⟨_, rfl⟩
       obtain ⟨ok, hok⟩ : ∃ b, (H.get x y).isSome = b := ⟨_, rfl⟩
       have hv1 : ok = true → r = ansV z := fun e => by rw [← HR.out]; unfold HeapM.idxM; rw [if_neg HNP.out, if_neg HNQ.out, if_pos ⟨hk3, hkey⟩]; rw [← hok] at e; obtain ⟨u, hu⟩ := Option.isSome_iff_exists.1 e; rw [hu] at hz ⊢; rw [← hz]; rfl
       have hv0 : ok = false → r = ansK y := fun e => by rw [← HR.out]; unfold HeapM.idxM; rw [if_neg HNP.out, if_neg HNQ.out, if_pos ⟨hk3, hkey⟩]; rw [← hok] at e; rw [Option.isSome_eq_false_iff, Option.isNone_iff_eq_none] at e; rw [e]
       have HZ := Lib.hid hz
       have HOK := Lib.hid hok
       have HV1 := Lib.hid hv1
       have HV0 := Lib.hid hv0
       clear hz hok hv1 hv0 hk3 hkey
       have KG : QuietC w bA 81 #[hpV h, agV x, agV y] (.tuple #[.agg #[.int .i64 z.kind, .int .i64 z.n, .string z.s], .bool ok]) := Lib.hid fun W Q T => by
        rw [HBS.out] at T ⊢
        exact rget_at T (Q.length + 2 + i) (atI2 hi) x y z ok HZ.out HOK.out
       go_upto_region 10 with fail
       refine regionL (E := [emptyR, boxE (b + 1 + 1 + 1), boxZ (b + 1 + 1)]) (base := bA) (Sep.putE S.out) ?_
       clear S
       refine qa ?_
       refine qc C0 ?_
       refine qc C1 ?_
       refine qk KG ?_
       iterate 3 refine qa ?_
       refine allocL 0 rfl (fun q => .pointer (some ⟨q, 0, none⟩)) (.cells #[.int .i64 0, .int .i64 0, .string ⟨#[]⟩] 24) (h1 := fun Wx => by go_simp) (h2 := fun qz121 => ?_); simp only [Act.put, pa]; try dsimp only [List.set]
       try simp only [List.set_cons_zero, List.set_cons_succ]
       refine qd undef [boxV qz121 z, boxE (b + 1 + 1 + 1), boxZ (b + 1 + 1)] (h1 := fun Wx hSw => by (have hz := hSw.box (b := qz121) (o := objZ) 0 rfl; refine useZ3 hz fun z0 z1 z2 y0 y1 y2 => ?_; go_simp; exact ⟨rfl, hSw.set3 0 rfl (.int .i64 z.kind) (.int .i64 z.n) (.string z.s)⟩)) (h2 := ?_)
       refine qa ?_
       refine doneL (h := fun w12 S => ?_)
       replace S := Lib.hid S
       cases ok with
       | true =>
        obtain rfl := HV1.out rfl
        go_upto_region 13 with fail
        refine regionL (E := [boxV qz121 z, boxE (b + 1 + 1 + 1), boxZ (b + 1 + 1)]) (base := bA) S.out ?_
        clear S
        refine qd _ [boxV qz121 z, boxE (b + 1 + 1 + 1), boxZ (b + 1 + 1)] (h1 := fun Wx hSw => by (have hz := hSw.box (b := qz121) (o := objV z) 0 rfl; have z0 := cellAt hz 0 (v := .int .i64 z.kind) rfl; have z1 := cellAt hz 1 (v := .int .i64 z.n) rfl; have z2 := cellAt hz 2 (v := .string z.s) rfl; go_simp; exact ⟨rfl, hSw⟩)) (h2 := ?_)
        refine qa ?_
        refine qd undef [boxV qz121 z, boxE (b + 1 + 1 + 1), boxV (b + 1 + 1) z] (h1 := fun Wx hSw => by (have hz := hSw.box (b := (b + 1 + 1)) (o := objZ) 2 rfl; refine useZ3 hz fun z0 z1 z2 y0 y1 y2 => ?_; go_simp; exact ⟨rfl, hSw.set3 2 rfl (.int .i64 z.kind) (.int .i64 z.n) (.string z.s)⟩)) (h2 := ?_)
        refine qd undef [boxV qz121 z, boxE (b + 1 + 1 + 1), boxV (b + 1 + 1) z] (h1 := fun Wx hSw => by (have hz := hSw.box (b := (b + 1 + 1 + 1)) (o := objE) 1 rfl; refine useZ5 hz fun z0 z1 z2 z3 z4 y0 y1 y2 y3 y4 => ?_; go_simp; exact ⟨rfl, hSw.set5 1 rfl (.string ⟨#[]⟩) (.int .i64 0) (.int .i64 0) (.string ⟨#[]⟩) (.bool false)⟩)) (h2 := ?_)
        refine doneL (h := fun w13 S => ?_)
        refine useR3 (S.box (b := b + 1 + 1) (o := objV z) 2 rfl) fun r0 r1 r2 => ?_
        refine useR5 (S.box (b := b + 1 + 1 + 1) (o := objE) 1 rfl) fun r3 r4 r5 r6 r7 => ?_
        replace S := Lib.hid S
        repeat (first | go_values | go_skip | go_guarded | go_step)
        refine bodyPost_ret (v := .tuple #[.agg #[.int .i64 z.kind, .int .i64 z.n, .string z.s], excZ]) ?_ ?_ ?_
        ·
         simp [results, Tryz.results18, go_sem, r0, r1, r2, r3, r4, r5, r6, r7]
        ·
         rfl
        refine ⟨rfl, ?_⟩
        replace S := S.out
        rw [HBS.out] at S
        exact S.tail.tail.tail.tail.tail
       | false =>
        obtain rfl := HV0.out rfl
        have KE : QuietC w bA 96 #[agV y] (.agg #[.string keyError, .int .i64 y.kind, .int .i64 y.n, .string y.s, .bool true]) := Lib.hid fun W Q T => by
         exact rlost_ok T y
        go_upto_region 12 with fail
        refine regionL (E := [boxV qz121 z, boxE (b + 1 + 1 + 1), boxZ (b + 1 + 1)]) (base := bA) S.out ?_
        clear S
        refine qa ?_
        refine qc C1 ?_
        refine qk KE ?_
        refine qd undef [boxV qz121 z, boxE (b + 1 + 1 + 1), boxZ (b + 1 + 1)] (h1 := fun Wx hSw => by (have hz := hSw.box (b := (b + 1 + 1)) (o := objZ) 2 rfl; refine useZ3 hz fun z0 z1 z2 y0 y1 y2 => ?_; go_simp; exact ⟨rfl, hSw.set3 2 rfl (.int .i64 0) (.int .i64 0) (.string ⟨#[]⟩)⟩)) (h2 := ?_)
        refine qd undef [boxV qz121 z, boxX (b + 1 + 1 + 1) keyError y.kind y.n y.s true, boxZ (b + 1 + 1)] (h1 := fun Wx hSw => by (have hz := hSw.box (b := (b + 1 + 1 + 1)) (o := objE) 1 rfl; refine useZ5 hz fun z0 z1 z2 z3 z4 y0 y1 y2 y3 y4 => ?_; go_simp; exact ⟨rfl, hSw.set5 1 rfl (.string keyError) (.int .i64 y.kind) (.int .i64 y.n) (.string y.s) (.bool true)⟩)) (h2 := ?_)
        refine doneL (h := fun w14 S => ?_)
        refine useR3 (S.box (b := b + 1 + 1) (o := objZ) 2 rfl) fun r0 r1 r2 => ?_
        refine useR5 (S.box (b := b + 1 + 1 + 1) (o := objX keyError y.kind y.n y.s true) 1 rfl) fun r3 r4 r5 r6 r7 => ?_
        replace S := Lib.hid S
        repeat (first | go_values | go_skip | go_guarded | go_step)
        refine bodyPost_ret (v := .tuple #[zeroV, .agg #[.string keyError, .int .i64 y.kind, .int .i64 y.n, .string y.s, .bool true]]) ?_ ?_ ?_
        ·
         simp [results, Tryz.results18, go_sem, r0, r1, r2, r3, r4, r5, r6, r7]
        ·
         rfl
        refine ⟨rfl, ?_⟩
        replace S := S.out
        rw [HBS.out] at S
        exact S.tail.tail.tail.tail.tail
      | false =>
       have hv : r = ansN typeError := by rw [← HR.out]; unfold HeapM.idxM; rw [if_neg HNP.out, if_neg HNQ.out, if_neg (by simpa using HD.out)]
       subst hv
       have KW : QuietC w bA 49 #[] (.tuple #[zeroV, excN typeError]) := Lib.hid fun W Q T => by
        exact rwrong_ok T
       go_upto_region 14 with fail
       refine regionL (E := [boxE (b + 1 + 1 + 1), boxZ (b + 1 + 1)]) (base := bA) S.out ?_
       clear S
       refine qk KW ?_
       iterate 2 refine qa ?_
       refine qd undef [boxE (b + 1 + 1 + 1), boxZ (b + 1 + 1)] (h1 := fun Wx hSw => by (have hz := hSw.box (b := (b + 1 + 1)) (o := objZ) 1 rfl; refine useZ3 hz fun z0 z1 z2 y0 y1 y2 => ?_; go_simp; exact ⟨rfl, hSw.set3 1 rfl (.int .i64 0) (.int .i64 0) (.string ⟨#[]⟩)⟩)) (h2 := ?_)
       refine qd undef [boxN (b + 1 + 1 + 1) typeError, boxZ (b + 1 + 1)] (h1 := fun Wx hSw => by (have hz := hSw.box (b := (b + 1 + 1 + 1)) (o := objE) 0 rfl; refine useZ5 hz fun z0 z1 z2 z3 z4 y0 y1 y2 y3 y4 => ?_; go_simp; exact ⟨rfl, hSw.set5 0 rfl (.string typeError) (.int .i64 0) (.int .i64 0) (.string ⟨#[]⟩) (.bool false)⟩)) (h2 := ?_)
       refine doneL (h := fun w15 S => ?_)
       refine useR3 (S.box (b := b + 1 + 1) (o := objZ) 1 rfl) fun r0 r1 r2 => ?_
       refine useR5 (S.box (b := b + 1 + 1 + 1) (o := objN typeError) 0 rfl) fun r3 r4 r5 r6 r7 => ?_
       replace S := Lib.hid S
       repeat (first | go_values | go_skip | go_guarded | go_step)
       refine bodyPost_ret (v := .tuple #[zeroV, excN typeError]) ?_ ?_ ?_
       ·
        simp [results, Tryz.results18, go_sem, r0, r1, r2, r3, r4, r5, r6, r7]
       ·
        rfl
       refine ⟨rfl, ?_⟩
       replace S := S.out
       rw [HBS.out] at S
       exact S.tail.tail.tail.tail
theorem rset_ok (S : Sep w Rs W) (i : Nat) (hi : Rs[i]? = some (refR h H)) {N : Nat} (F : H.Fit N) (hN' : N ≤ 4000000) (x y z : V) (r : AnsM) (hr : H.siE x y = r) (H1 : HeapM) (hh1 : H.siH x y z = H1) : Calls Tryz.prog 22 #[.pointer (some ⟨h, 0, none⟩), .agg #[.int .i64 x.kind, .int .i64 x.n, .string x.s], .agg #[.int .i64 y.kind, .int .i64 y.n, .string y.s], .agg #[.int .i64 z.kind, .int .i64 z.n, .string z.s]] W fun e W' => e = .returned r.exc ∧ Sep w (Rs.set i (refR h H1)) W' := by
 have HR := Lib.hid hr
 have HH1 := Lib.hid hh1
 clear hr hh1
 obtain ⟨X1, hX1⟩ : ∃ zz_, H.items x = zz_ := ⟨_, rfl⟩
 have HX1_ := Lib.hid hX1
 clear hX1
 obtain ⟨kx, hkx⟩ : ∃ zz_, H.kind x = zz_ := ⟨_, rfl⟩
 have Hkx_ := Lib.hid hkx
 clear hkx
 obtain ⟨ky, hky⟩ : ∃ zz_, y.isKey = zz_ := ⟨_, rfl⟩
 have Hky_ := Lib.hid hky
 clear hky
 have HL : Hid (X1.length ≤ 4000000) := Lib.hid (by rw [← HX1_.out]; have := F.G.items x; omega)
 obtain ⟨p, hp⟩ : ∃ b, decide (kx = 1 ∧ y.kind = 2) = b := ⟨_, rfl⟩
 have HP_ := Lib.hid hp
 clear hp
 obtain ⟨d, hd⟩ : ∃ b, decide (kx = 3 ∧ ky = true) = b := ⟨_, rfl⟩
 have HD := Lib.hid hd
 clear hd
 obtain ⟨b, hb⟩ : ∃ gx_, (W.heap.size) = gx_ := ⟨_, rfl⟩
 replace S := ((((S.alloc (.cells #[.int .i64 x.kind, .int .i64 x.n, .string x.s] 24)).alloc (.cells #[.int .i64 y.kind, .int .i64 y.n, .string y.s] 24)).alloc (.cells #[.int .i64 z.kind, .int .i64 z.n, .string z.s] 24)).alloc (.cells #[.string ⟨#[]⟩, .int .i64 0, .int .i64 0, .string ⟨#[]⟩, .bool false] 33))
 simp only [World.size_alloc, hb] at S
 obtain ⟨Rt, hRt⟩ : ∃ l, l = Rs.eraseIdx i := ⟨_, rfl⟩
 have HF : Hid (∀ H' W', Sep w (refR h H' :: Rt) W' → Sep w (Rs.set i (refR h H')) W') := Lib.hid fun H' W' T => by rw [hRt] at T; exact T.perm (perm_push hi).symm
 obtain ⟨bA, hbs⟩ : ∃ l, l = boxV (b + 1 + 1) z :: boxV (b + 1) y :: boxV b x :: Rt := ⟨_, rfl⟩
 have HBS := Lib.hid hbs
 replace S := enterQ (w := w) (all := [boxE (b + 1 + 1 + 1), boxV (b + 1 + 1) z, boxV (b + 1) y, boxV b x]) (E := [boxE (b + 1 + 1 + 1), refR h H]) (B := [boxV (b + 1 + 1) z, boxV (b + 1) y, boxV b x]) (Rs := Rs) S hRt hi hbs (perm_of [0, 4, 1, 2, 3] (by show (List.range' 0 5).Perm [0, 4, 1, 2, 3]; decide) (by rfl))
 clear hRt
 have C2 := baseC3 (w := w) (b := b + 1 + 1) hbs 0 rfl
 have C1 := baseC3 (w := w) (b := b + 1) hbs 1 rfl
 have C0 := baseC3 (w := w) (b := b) hbs 2 rfl
 clear hbs
 replace S := Lib.hid S
 go_enter Tryz.func22, Tryz.ntmps22
 go_upto_region 1 with fail
 try simp only [World.size_alloc, hb]
 clear hb
 go_upto_region 1 with fail
 go_cut [9] (fun s9 wx => s9 = .bool p ∧ Sep w ([boxE (b + 1 + 1 + 1), refR h H] ++ bA) wx)
 case first =>
  by_cases h3 : kx = 1
  ·
   have e1 : (kx == 1) = true := by simp [h3]
   obtain ⟨q, hq⟩ : ∃ b, b = (y.kind == 2) := ⟨_, rfl⟩
   have HQ := Lib.hid hq
   obtain rfl : p = q := by rw [hq, ← HP_.out]; simp [h3]; rfl
   clear hq h3
   refine regionL (E := [boxE (b + 1 + 1 + 1), refR h H]) (base := bA) S.out ?_
   clear S
   refine qa ?_
   refine qc C0 ?_
   refine qd (.int .i64 kx) [boxE (b + 1 + 1 + 1), refR h H] (h1 := fun Wx hSw => by (go_simp; refine symCall ?_; exact rkind_at hSw 1 rfl x kx Hkx_.out)) (h2 := ?_)
   iterate 3 refine qa ?_
   refine qc C1 ?_
   refine qa (v := .bool p) (hy := fun E Wx hSw => by (go_simp; rw [HQ.out]; exact ⟨rfl, hSw⟩)) (h := ?_)
   iterate 2 refine qa ?_
   refine doneL (h := fun w1 S => ?_)
   replace S := Lib.hid S
   go_wp2_with fail
   go_meet
   exact ⟨rfl, S.out⟩
  ·
   have e1 : (kx == 1) = false := by simp [h3]
   obtain rfl : p = false := by rw [← HP_.out]; simp [h3]
   clear h3
   refine regionL (E := [boxE (b + 1 + 1 + 1), refR h H]) (base := bA) S.out ?_
   clear S
   refine qa ?_
   refine qc C0 ?_
   refine qd (.int .i64 kx) [boxE (b + 1 + 1 + 1), refR h H] (h1 := fun Wx hSw => by (go_simp; refine symCall ?_; exact rkind_at hSw 1 rfl x kx Hkx_.out)) (h2 := ?_)
   iterate 2 refine qa ?_
   iterate 3 refine qz ?_
   iterate 2 refine qa ?_
   refine doneL (h := fun w2 S => ?_)
   replace S := Lib.hid S
   go_wp2_with fail
   go_meet
   exact ⟨rfl, S.out⟩
 case rest =>
  obtain ⟨rfl, S⟩ := hcut
  replace S := Lib.hid S
  cases p with
  | true =>
   obtain ⟨hk1, hy2⟩ : kx = 1 ∧ y.kind = 2 := by simpa using HP_.out
   have hx1 : H.kind x = 1 := by rw [Hkx_.out]; exact hk1
   obtain ⟨ok, hok⟩ : ∃ b, inP X1.length y.n = b := ⟨_, rfl⟩
   have hv1 : ok = true → r = ansV V.zero := fun e => by rw [← HR.out]; unfold HeapM.siE; rw [if_pos ⟨hx1, hy2⟩, HX1_.out, hok, if_pos e]
   have hv0 : ok = false → r = ansN indexError := fun e => by rw [← HR.out]; unfold HeapM.siE; rw [if_pos ⟨hx1, hy2⟩, HX1_.out, hok, if_neg (by rw [e]; decide)]
   obtain ⟨j, hj⟩ : ∃ j, (if inP X1.length y.n = true then placeP X1.length y.n else -1) = j := ⟨_, rfl⟩
   have hh : H1 = H.setAt x j z := by rw [← HH1.out, ← hj]; unfold HeapM.siH; rw [if_pos ⟨hx1, hy2⟩]; have e := setAt_p hx1 y.n z; rw [HX1_.out] at e ⊢; rw [e]
   have hin : H.inItems x j = ok := by rw [← hj, ← hok]; have e := inItems_p hx1 y.n; rw [HX1_.out] at e; exact e
   have hjo : okI j := by rw [← hj]; split; exact okI_place (by have := HL.out; omega) y.hn; decide
   have Xhj := Lib.hid hj
   have Xhh := Lib.hid hh
   have Xhin := Lib.hid hin
   have Xhjo := Lib.hid hjo
   have Xhv1 := Lib.hid hv1
   have Xhv0 := Lib.hid hv0
   clear hj hh hin hjo hv1 hv0 hok hx1 hk1 hy2
   have KP : QuietC w bA 93 #[.int .i64 X1.length, .int .i64 y.n] (.int .i64 j) := Lib.hid fun W Q T => by
    have hh := rplace_ok W X1.length y.n (by have := HL.out; omega) y.hn
    rw [Xhj.out] at hh
    exact hh.mono fun e W' ⟨e1, e2⟩ => ⟨e1, by rw [e2]; exact T⟩
   go_upto_region 2 with fail
   refine regionP 4 7 (E := [boxE (b + 1 + 1 + 1), refR h H]) (base := bA) S.out ?_
   clear S
   refine qp ?_
   refine qpc C0 ?_
   refine qp ?_
   refine qpc C0 ?_
   refine endP ?_
   refine qs 5 ?_
   refine qsc 6 C1 ?_
   refine qsc 8 C2 ?_
   refine readyS [4] ?_
   refine detS (.int .i64 X1.length) [boxE (b + 1 + 1 + 1), refR h H] (h1 := fun Wx hSw => by (go_simp; refine symCall ?_; exact rlen_ok hSw 1 rfl F.G (by omega) x X1.length (by rw [HX1_.out]))) (h2 := ?_) (hs := nilS); simp only [Act.put, pa]; try dsimp only [List.set]
   refine qsk 7 KP ?_
   refine readyS [9] ?_
   refine detS (.bool ok) [boxE (b + 1 + 1 + 1), refR h H1] (h1 := fun Wx hSw => by (go_simp; refine symCall ?_; have hh := hSw.ySetAt 1 rfl F.G x j z Xhjo.out; rw [Xhin.out, ← Xhh.out] at hh; exact hh)) (h2 := ?_) (hs := nilS); simp only [Act.put, pa]; try dsimp only [List.set]
   refine qs 10 ?_
   refine doneS (h := fun w3 S => ?_)
   replace S := Lib.hid S
   cases ok with
   | true =>
    obtain rfl := Xhv1.out rfl
    go_upto_region 4 with fail
    refine regionL (E := [boxE (b + 1 + 1 + 1), refR h H1]) (base := bA) S.out ?_
    clear S
    refine qa ?_
    refine qd undef [boxE (b + 1 + 1 + 1), refR h H1] (h1 := fun Wx hSw => by (have hz := hSw.box (b := (b + 1 + 1 + 1)) (o := objE) 0 rfl; refine useZ5 hz fun z0 z1 z2 z3 z4 y0 y1 y2 y3 y4 => ?_; go_simp; exact ⟨rfl, hSw.set5 0 rfl (.string ⟨#[]⟩) (.int .i64 0) (.int .i64 0) (.string ⟨#[]⟩) (.bool false)⟩)) (h2 := ?_)
    refine doneL (h := fun w4 S => ?_)
    refine useR5 (S.box (b := b + 1 + 1 + 1) (o := objE) 0 rfl) fun r0 r1 r2 r3 r4 => ?_
    replace S := Lib.hid S
    repeat (first | go_values | go_skip | go_guarded | go_step)
    refine bodyPost_ret (v := excZ) ?_ ?_ ?_
    ·
     simp [results, Tryz.results22, go_sem, r0, r1, r2, r3, r4]
    ·
     rfl
    refine ⟨rfl, ?_⟩
    replace S := S.out
    rw [HBS.out] at S
    exact HF.out _ _ (S.sub (Qs := refR h (H1) :: Rt) (.cons _ (.cons_cons _ (.cons _ (.cons _ (.cons _ (List.Sublist.refl _)))))))
   | false =>
    obtain rfl := Xhv0.out rfl
    have KE : QuietC w bA 94 #[.string indexError] (excN indexError) := Lib.hid fun W Q T => by
     exact rexc_ok T _
    go_upto_region 3 with fail
    refine regionL (E := [boxE (b + 1 + 1 + 1), refR h H1]) (base := bA) S.out ?_
    clear S
    refine qk KE ?_
    refine qd undef [boxN (b + 1 + 1 + 1) indexError, refR h H1] (h1 := fun Wx hSw => by (have hz := hSw.box (b := (b + 1 + 1 + 1)) (o := objE) 0 rfl; refine useZ5 hz fun z0 z1 z2 z3 z4 y0 y1 y2 y3 y4 => ?_; go_simp; exact ⟨rfl, hSw.set5 0 rfl (.string indexError) (.int .i64 0) (.int .i64 0) (.string ⟨#[]⟩) (.bool false)⟩)) (h2 := ?_)
    refine doneL (h := fun w5 S => ?_)
    refine useR5 (S.box (b := b + 1 + 1 + 1) (o := objN indexError) 0 rfl) fun r0 r1 r2 r3 r4 => ?_
    replace S := Lib.hid S
    repeat (first | go_values | go_skip | go_guarded | go_step)
    refine bodyPost_ret (v := excN indexError) ?_ ?_ ?_
    ·
     simp [results, Tryz.results22, go_sem, r0, r1, r2, r3, r4]
    ·
     rfl
    refine ⟨rfl, ?_⟩
    replace S := S.out
    rw [HBS.out] at S
    exact HF.out _ _ (S.sub (Qs := refR h (H1) :: Rt) (.cons _ (.cons_cons _ (.cons _ (.cons _ (.cons _ (List.Sublist.refl _)))))))
  | false =>
   have HNP : Hid (¬ (H.kind x = 1 ∧ y.kind = 2)) := Lib.hid (by rw [Hkx_.out]; simpa using HP_.out)
   have KY : QuietC w bA 95 #[agV y] (.bool ky) := Lib.hid fun W Q T => by
    have hh := rkey_ok W y
    rw [Hky_.out] at hh
    exact hh.mono fun e W' ⟨e1, e2⟩ => ⟨e1, T.later e2⟩
   go_upto_region 5 with fail
   go_cut [32] (fun s32 wx => s32 = .bool d ∧ Sep w ([boxE (b + 1 + 1 + 1), refR h H] ++ bA) wx)
   case first =>
    by_cases h3 : kx = 3
    ·
     have e1 : (kx == 3) = true := by simp [h3]
     obtain rfl : d = ky := by rw [← HD.out]; simp [h3]
     clear h3
     refine regionL (E := [boxE (b + 1 + 1 + 1), refR h H]) (base := bA) S.out ?_
     clear S
     refine qa ?_
     refine qc C0 ?_
     refine qd (.int .i64 kx) [boxE (b + 1 + 1 + 1), refR h H] (h1 := fun Wx hSw => by (go_simp; refine symCall ?_; exact rkind_at hSw 1 rfl x kx Hkx_.out)) (h2 := ?_)
     iterate 2 refine qa ?_
     refine qc C1 ?_
     refine qk KY ?_
     iterate 2 refine qa ?_
     refine doneL (h := fun w6 S => ?_)
     replace S := Lib.hid S
     go_wp2_with fail
     go_meet
     exact ⟨rfl, S.out⟩
    ·
     have e1 : (kx == 3) = false := by simp [h3]
     obtain rfl : d = false := by rw [← HD.out]; simp [h3]
     clear h3
     refine regionL (E := [boxE (b + 1 + 1 + 1), refR h H]) (base := bA) S.out ?_
     clear S
     refine qa ?_
     refine qc C0 ?_
     refine qd (.int .i64 kx) [boxE (b + 1 + 1 + 1), refR h H] (h1 := fun Wx hSw => by (go_simp; refine symCall ?_; exact rkind_at hSw 1 rfl x kx Hkx_.out)) (h2 := ?_)
     iterate 2 refine qa ?_
     iterate 2 refine qz ?_
     iterate 2 refine qa ?_
     refine doneL (h := fun w7 S => ?_)
     replace S := Lib.hid S
     go_wp2_with fail
     go_meet
     exact ⟨rfl, S.out⟩
   case rest =>
    obtain ⟨rfl, S⟩ := hcut
    replace S := Lib.hid S
    cases d with
    | true =>
     obtain ⟨hk3, hkey⟩ : H.kind x = 3 ∧ y.isKey = true := by rw [Hkx_.out, Hky_.out]; simpa using HD.out
     obtain ⟨ok, hok⟩ : ∃ b, H.canPut x y = b := ⟨_, rfl⟩
     have hv1 : ok = true → r = ansV V.zero := fun e => by rw [← HR.out]; unfold HeapM.siE; rw [if_neg HNP.out, if_pos ⟨hk3, hkey⟩, hok, if_pos e]
     have hv0 : ok = false → r = ansN memoryError := fun e => by rw [← HR.out]; unfold HeapM.siE; rw [if_neg HNP.out, if_pos ⟨hk3, hkey⟩, hok, if_neg (by rw [e]; decide)]
     have hh : H1 = H.put x y z := by rw [← HH1.out]; unfold HeapM.siH; rw [if_neg HNP.out, if_pos ⟨hk3, hkey⟩]
     have Xhok := Lib.hid hok
     have Xhv1 := Lib.hid hv1
     have Xhv0 := Lib.hid hv0
     have Xhh := Lib.hid hh
     clear hok hv1 hv0 hh hk3 hkey
     go_upto_region 6 with fail
     refine regionL (E := [boxE (b + 1 + 1 + 1), refR h H]) (base := bA) S.out ?_
     clear S
     refine qa ?_
     refine qc C0 ?_
     refine qc C1 ?_
     refine qc C2 ?_
     refine qd (.bool ok) [boxE (b + 1 + 1 + 1), refR h H1] (h1 := fun Wx hSw => by (go_simp; refine symCall ?_; have hh := hSw.yPut 1 rfl F x y z; rw [Xhok.out, ← Xhh.out] at hh; exact hh)) (h2 := ?_)
     refine qa ?_
     refine doneL (h := fun w8 S => ?_)
     replace S := Lib.hid S
     cases ok with
     | true =>
      obtain rfl := Xhv1.out rfl
      go_upto_region 8 with fail
      refine regionL (E := [boxE (b + 1 + 1 + 1), refR h H1]) (base := bA) S.out ?_
      clear S
      refine qa ?_
      refine qd undef [boxE (b + 1 + 1 + 1), refR h H1] (h1 := fun Wx hSw => by (have hz := hSw.box (b := (b + 1 + 1 + 1)) (o := objE) 0 rfl; refine useZ5 hz fun z0 z1 z2 z3 z4 y0 y1 y2 y3 y4 => ?_; go_simp; exact ⟨rfl, hSw.set5 0 rfl (.string ⟨#[]⟩) (.int .i64 0) (.int .i64 0) (.string ⟨#[]⟩) (.bool false)⟩)) (h2 := ?_)
      refine doneL (h := fun w9 S => ?_)
      refine useR5 (S.box (b := b + 1 + 1 + 1) (o := objE) 0 rfl) fun r0 r1 r2 r3 r4 => ?_
      replace S := Lib.hid S
      repeat (first | go_values | go_skip | go_guarded | go_step)
      refine bodyPost_ret (v := excZ) ?_ ?_ ?_
      ·
       simp [results, Tryz.results22, go_sem, r0, r1, r2, r3, r4]
      ·
       rfl
      refine ⟨rfl, ?_⟩
      replace S := S.out
      rw [HBS.out] at S
      exact HF.out _ _ (S.sub (Qs := refR h (H1) :: Rt) (.cons _ (.cons_cons _ (.cons _ (.cons _ (.cons _ (List.Sublist.refl _)))))))
     | false =>
      obtain rfl := Xhv0.out rfl
      have KE : QuietC w bA 94 #[.string memoryError] (excN memoryError) := Lib.hid fun W Q T => by
       exact rexc_ok T _
      go_upto_region 7 with fail
      refine regionL (E := [boxE (b + 1 + 1 + 1), refR h H1]) (base := bA) S.out ?_
      clear S
      refine qk KE ?_
      refine qd undef [boxN (b + 1 + 1 + 1) memoryError, refR h H1] (h1 := fun Wx hSw => by (have hz := hSw.box (b := (b + 1 + 1 + 1)) (o := objE) 0 rfl; refine useZ5 hz fun z0 z1 z2 z3 z4 y0 y1 y2 y3 y4 => ?_; go_simp; exact ⟨rfl, hSw.set5 0 rfl (.string memoryError) (.int .i64 0) (.int .i64 0) (.string ⟨#[]⟩) (.bool false)⟩)) (h2 := ?_)
      refine doneL (h := fun w10 S => ?_)
      refine useR5 (S.box (b := b + 1 + 1 + 1) (o := objN memoryError) 0 rfl) fun r0 r1 r2 r3 r4 => ?_
      replace S := Lib.hid S
      repeat (first | go_values | go_skip | go_guarded | go_step)
      refine bodyPost_ret (v := excN memoryError) ?_ ?_ ?_
      ·
       simp [results, Tryz.results22, go_sem, r0, r1, r2, r3, r4]
      ·
       rfl
      refine ⟨rfl, ?_⟩
      replace S := S.out
      rw [HBS.out] at S
      exact HF.out _ _ (S.sub (Qs := refR h (H1) :: Rt) (.cons _ (.cons_cons _ (.cons _ (.cons _ (.cons _ (List.Sublist.refl _)))))))
    | false =>
     have hnd : ¬ (H.kind x = 3 ∧ y.isKey = true) := by rw [Hkx_.out, Hky_.out]; simpa using HD.out
     obtain rfl : r = ansN typeError := by rw [← HR.out]; unfold HeapM.siE; rw [if_neg HNP.out, if_neg hnd]
     obtain rfl : H = H1 := by rw [← HH1.out]; unfold HeapM.siH; rw [if_neg HNP.out, if_neg hnd]
     clear hnd
     have KE : QuietC w bA 94 #[.string typeError] (excN typeError) := Lib.hid fun W Q T => by
      exact rexc_ok T _
     go_upto_region 9 with fail
     refine regionL (E := [boxE (b + 1 + 1 + 1), refR h H]) (base := bA) S.out ?_
     clear S
     refine qk KE ?_
     refine qd undef [boxN (b + 1 + 1 + 1) typeError, refR h H] (h1 := fun Wx hSw => by (have hz := hSw.box (b := (b + 1 + 1 + 1)) (o := objE) 0 rfl; refine useZ5 hz fun z0 z1 z2 z3 z4 y0 y1 y2 y3 y4 => ?_; go_simp; exact ⟨rfl, hSw.set5 0 rfl (.string typeError) (.int .i64 0) (.int .i64 0) (.string ⟨#[]⟩) (.bool false)⟩)) (h2 := ?_)
     refine doneL (h := fun w11 S => ?_)
     refine useR5 (S.box (b := b + 1 + 1 + 1) (o := objN typeError) 0 rfl) fun r0 r1 r2 r3 r4 => ?_
     replace S := Lib.hid S
     repeat (first | go_values | go_skip | go_guarded | go_step)
     refine bodyPost_ret (v := excN typeError) ?_ ?_ ?_
     ·
      simp [results, Tryz.results22, go_sem, r0, r1, r2, r3, r4]
     ·
      rfl
     refine ⟨rfl, ?_⟩
     replace S := S.out
     rw [HBS.out] at S
     exact HF.out _ _ (S.sub (Qs := refR h (H) :: Rt) (.cons _ (.cons_cons _ (.cons _ (.cons _ (.cons _ (List.Sublist.refl _)))))))
theorem rdel_ok (S : Sep w Rs W) (i : Nat) (hi : Rs[i]? = some (refR h H)) {N : Nat} (F : H.Fit N) (hN' : N ≤ 4000000) (x y : V) (r : AnsM) (hr : H.diE x y = r) (H1 : HeapM) (hh1 : H.diH x y = H1) : Calls Tryz.prog 24 #[.pointer (some ⟨h, 0, none⟩), .agg #[.int .i64 x.kind, .int .i64 x.n, .string x.s], .agg #[.int .i64 y.kind, .int .i64 y.n, .string y.s]] W fun e W' => e = .returned r.exc ∧ Sep w (Rs.set i (refR h H1)) W' := by
 have HR := Lib.hid hr
 have HH1 := Lib.hid hh1
 clear hr hh1
 obtain ⟨X1, hX1⟩ : ∃ zz_, H.items x = zz_ := ⟨_, rfl⟩
 have HX1_ := Lib.hid hX1
 clear hX1
 obtain ⟨kx, hkx⟩ : ∃ zz_, H.kind x = zz_ := ⟨_, rfl⟩
 have Hkx_ := Lib.hid hkx
 clear hkx
 obtain ⟨ky, hky⟩ : ∃ zz_, y.isKey = zz_ := ⟨_, rfl⟩
 have Hky_ := Lib.hid hky
 clear hky
 have HL : Hid (X1.length ≤ 4000000) := Lib.hid (by rw [← HX1_.out]; have := F.G.items x; omega)
 obtain ⟨p, hp⟩ : ∃ b, decide (kx = 1 ∧ y.kind = 2) = b := ⟨_, rfl⟩
 have HP_ := Lib.hid hp
 clear hp
 obtain ⟨d, hd⟩ : ∃ b, decide (kx = 3 ∧ ky = true) = b := ⟨_, rfl⟩
 have HD := Lib.hid hd
 clear hd
 obtain ⟨b, hb⟩ : ∃ gx_, (W.heap.size) = gx_ := ⟨_, rfl⟩
 replace S := (((S.alloc (.cells #[.int .i64 x.kind, .int .i64 x.n, .string x.s] 24)).alloc (.cells #[.int .i64 y.kind, .int .i64 y.n, .string y.s] 24)).alloc (.cells #[.string ⟨#[]⟩, .int .i64 0, .int .i64 0, .string ⟨#[]⟩, .bool false] 33))
 simp only [World.size_alloc, hb] at S
 obtain ⟨Rt, hRt⟩ : ∃ l, l = Rs.eraseIdx i := ⟨_, rfl⟩
 have HF : Hid (∀ H' W', Sep w (refR h H' :: Rt) W' → Sep w (Rs.set i (refR h H')) W') := Lib.hid fun H' W' T => by rw [hRt] at T; exact T.perm (perm_push hi).symm
 obtain ⟨bA, hbs⟩ : ∃ l, l = boxV (b + 1) y :: boxV b x :: Rt := ⟨_, rfl⟩
 have HBS := Lib.hid hbs
 replace S := enterQ (w := w) (all := [boxE (b + 1 + 1), boxV (b + 1) y, boxV b x]) (E := [boxE (b + 1 + 1), refR h H]) (B := [boxV (b + 1) y, boxV b x]) (Rs := Rs) S hRt hi hbs (perm_of [0, 3, 1, 2] (by show (List.range' 0 4).Perm [0, 3, 1, 2]; decide) (by rfl))
 clear hRt
 have C1 := baseC3 (w := w) (b := b + 1) hbs 0 rfl
 have C0 := baseC3 (w := w) (b := b) hbs 1 rfl
 clear hbs
 replace S := Lib.hid S
 go_enter Tryz.func24, Tryz.ntmps24
 go_upto_region 1 with fail
 try simp only [World.size_alloc, hb]
 clear hb
 go_upto_region 1 with fail
 go_cut [8] (fun s8 wx => s8 = .bool p ∧ Sep w ([boxE (b + 1 + 1), refR h H] ++ bA) wx)
 case first =>
  by_cases h3 : kx = 1
  ·
   have e1 : (kx == 1) = true := by simp [h3]
   obtain ⟨q, hq⟩ : ∃ b, b = (y.kind == 2) := ⟨_, rfl⟩
   have HQ := Lib.hid hq
   obtain rfl : p = q := by rw [hq, ← HP_.out]; simp [h3]; rfl
   clear hq h3
   refine regionL (E := [boxE (b + 1 + 1), refR h H]) (base := bA) S.out ?_
   clear S
   refine qa ?_
   refine qc C0 ?_
   refine qd (.int .i64 kx) [boxE (b + 1 + 1), refR h H] (h1 := fun Wx hSw => by (go_simp; refine symCall ?_; exact rkind_at hSw 1 rfl x kx Hkx_.out)) (h2 := ?_)
   iterate 3 refine qa ?_
   refine qc C1 ?_
   refine qa (v := .bool p) (hy := fun E Wx hSw => by (go_simp; rw [HQ.out]; exact ⟨rfl, hSw⟩)) (h := ?_)
   iterate 2 refine qa ?_
   refine doneL (h := fun w1 S => ?_)
   replace S := Lib.hid S
   go_wp2_with fail
   go_meet
   exact ⟨rfl, S.out⟩
  ·
   have e1 : (kx == 1) = false := by simp [h3]
   obtain rfl : p = false := by rw [← HP_.out]; simp [h3]
   clear h3
   refine regionL (E := [boxE (b + 1 + 1), refR h H]) (base := bA) S.out ?_
   clear S
   refine qa ?_
   refine qc C0 ?_
   refine qd (.int .i64 kx) [boxE (b + 1 + 1), refR h H] (h1 := fun Wx hSw => by (go_simp; refine symCall ?_; exact rkind_at hSw 1 rfl x kx Hkx_.out)) (h2 := ?_)
   iterate 2 refine qa ?_
   iterate 3 refine qz ?_
   iterate 2 refine qa ?_
   refine doneL (h := fun w2 S => ?_)
   replace S := Lib.hid S
   go_wp2_with fail
   go_meet
   exact ⟨rfl, S.out⟩
 case rest =>
  obtain ⟨rfl, S⟩ := hcut
  replace S := Lib.hid S
  cases p with
  | true =>
   obtain ⟨hk1, hy2⟩ : kx = 1 ∧ y.kind = 2 := by simpa using HP_.out
   have hx1 : H.kind x = 1 := by rw [Hkx_.out]; exact hk1
   obtain ⟨ok, hok⟩ : ∃ b, inP X1.length y.n = b := ⟨_, rfl⟩
   have hv1 : ok = true → r = ansV V.zero := fun e => by rw [← HR.out]; unfold HeapM.diE; rw [if_pos ⟨hx1, hy2⟩, HX1_.out, hok, if_pos e]
   have hv0 : ok = false → r = ansN indexError := fun e => by rw [← HR.out]; unfold HeapM.diE; rw [if_pos ⟨hx1, hy2⟩, HX1_.out, hok, if_neg (by rw [e]; decide)]
   obtain ⟨j, hj⟩ : ∃ j, (if inP X1.length y.n = true then placeP X1.length y.n else -1) = j := ⟨_, rfl⟩
   have hh1 : ok = true → H1 = H.replace x j (j + 1) [] := fun e => by rw [← HH1.out, ← hj]; unfold HeapM.diH; rw [if_pos ⟨hx1, hy2⟩, HX1_.out, hok, if_pos e, if_pos e]
   have hh0 : ok = false → H = H1 := fun e => by rw [← HH1.out]; unfold HeapM.diH; rw [if_pos ⟨hx1, hy2⟩, HX1_.out, hok, if_neg (by rw [e]; decide)]
   have hc1 : ok = true → H.canReplace x j (j + 1) = true := fun e => by rw [← hj, hok, if_pos e]; have hp := canReplace_p (i := y.n) hx1 (by rw [HX1_.out, hok]; exact e); rw [HX1_.out] at hp; exact hp
   have hj1 : ok = true → 0 ≤ j ∧ j < 4000001 := fun e => by rw [← hj, hok, if_pos e]; rw [e] at hok; unfold inP at hok; simp at hok; have := HL.out; omega
   have hj0 : ok = false → j = -1 := fun e => by rw [← hj, hok, if_neg (by rw [e]; decide)]
   have Xhj := Lib.hid hj
   have Xhh1 := Lib.hid hh1
   have Xhh0 := Lib.hid hh0
   have Xhc1 := Lib.hid hc1
   have Xhj1 := Lib.hid hj1
   have Xhj0 := Lib.hid hj0
   have Xhv1 := Lib.hid hv1
   have Xhv0 := Lib.hid hv0
   clear hj hh1 hh0 hc1 hj1 hj0 hv1 hv0 hok hx1 hk1 hy2
   have KP : QuietC w bA 93 #[.int .i64 X1.length, .int .i64 y.n] (.int .i64 j) := Lib.hid fun W Q T => by
    have hh := rplace_ok W X1.length y.n (by have := HL.out; omega) y.hn
    rw [Xhj.out] at hh
    exact hh.mono fun e W' ⟨e1, e2⟩ => ⟨e1, by rw [e2]; exact T⟩
   go_upto_region 2 with fail
   refine regionP 2 5 (E := [boxE (b + 1 + 1), refR h H]) (base := bA) S.out ?_
   clear S
   refine qp ?_
   refine qpc C0 ?_
   refine endP ?_
   refine qs 3 ?_
   refine qsc 4 C1 ?_
   refine readyS [2] ?_
   refine detS (.int .i64 X1.length) [boxE (b + 1 + 1), refR h H] (h1 := fun Wx hSw => by (go_simp; refine symCall ?_; exact rlen_ok hSw 1 rfl F.G (by omega) x X1.length (by rw [HX1_.out]))) (h2 := ?_) (hs := nilS); simp only [Act.put, pa]; try dsimp only [List.set]
   refine qsk 5 KP ?_
   refine qs 6 ?_
   refine doneS (h := fun w3 S => ?_)
   replace S := Lib.hid S
   cases ok with
   | true =>
    obtain rfl := Xhv1.out rfl
    have hj1 := Xhj1.out rfl
    have hj2 : ¬ j < 0 := by omega
    have hjw : IntKind.i64.wrap (j + 1) = j + 1 := IntWalk.i64_in _ (by omega)
    go_upto_region 3 with fail
    refine regionL (E := [boxE (b + 1 + 1), refR h H]) (base := bA) S.out ?_
    clear S
    iterate 4 refine qa ?_
    refine qc C0 ?_
    iterate 3 refine qa ?_
    refine qd (.bool true) [boxE (b + 1 + 1), refR h H1] (h1 := fun Wx hSw => by (go_simp; refine symCall ?_; have hh := hSw.yReplace 1 rfl F.G x j (j + 1) (.slice none 0 0) [] (fun W1 _ => seesV_none W1) (by simpa using hN'); rw [Xhc1.out rfl, ← Xhh1.out rfl] at hh; exact hh)) (h2 := ?_)
    iterate 2 refine qa ?_
    refine doneL (h := fun w4 S => ?_)
    replace S := Lib.hid S
    clear hj1 hj2 hjw
    go_upto_region 5 with fail
    refine regionL (E := [boxE (b + 1 + 1), refR h H1]) (base := bA) S.out ?_
    clear S
    refine qa ?_
    refine qd undef [boxE (b + 1 + 1), refR h H1] (h1 := fun Wx hSw => by (have hz := hSw.box (b := (b + 1 + 1)) (o := objE) 0 rfl; refine useZ5 hz fun z0 z1 z2 z3 z4 y0 y1 y2 y3 y4 => ?_; go_simp; exact ⟨rfl, hSw.set5 0 rfl (.string ⟨#[]⟩) (.int .i64 0) (.int .i64 0) (.string ⟨#[]⟩) (.bool false)⟩)) (h2 := ?_)
    refine doneL (h := fun w5 S => ?_)
    refine useR5 (S.box (b := b + 1 + 1) (o := objE) 0 rfl) fun r0 r1 r2 r3 r4 => ?_
    replace S := Lib.hid S
    repeat (first | go_values | go_skip | go_guarded | go_step)
    refine bodyPost_ret (v := excZ) ?_ ?_ ?_
    ·
     simp [results, Tryz.results24, go_sem, r0, r1, r2, r3, r4]
    ·
     rfl
    refine ⟨rfl, ?_⟩
    replace S := S.out
    rw [HBS.out] at S
    exact HF.out _ _ (S.sub (Qs := refR h (H1) :: Rt) (.cons _ (.cons_cons _ (.cons _ (.cons _ (List.Sublist.refl _))))))
   | false =>
    obtain rfl := Xhv0.out rfl
    obtain rfl := Xhj0.out rfl
    obtain rfl := Xhh0.out rfl
    go_upto_region 3 with fail
    refine regionL (E := [boxE (b + 1 + 1), refR h H]) (base := bA) S.out ?_
    clear S
    iterate 3 refine qa ?_
    iterate 7 refine qz ?_
    refine qa ?_
    refine doneL (h := fun w6 S => ?_)
    replace S := Lib.hid S
    have KE : QuietC w bA 94 #[.string indexError] (excN indexError) := Lib.hid fun W Q T => by
     exact rexc_ok T _
    go_upto_region 4 with fail
    refine regionL (E := [boxE (b + 1 + 1), refR h H]) (base := bA) S.out ?_
    clear S
    refine qk KE ?_
    refine qd undef [boxN (b + 1 + 1) indexError, refR h H] (h1 := fun Wx hSw => by (have hz := hSw.box (b := (b + 1 + 1)) (o := objE) 0 rfl; refine useZ5 hz fun z0 z1 z2 z3 z4 y0 y1 y2 y3 y4 => ?_; go_simp; exact ⟨rfl, hSw.set5 0 rfl (.string indexError) (.int .i64 0) (.int .i64 0) (.string ⟨#[]⟩) (.bool false)⟩)) (h2 := ?_)
    refine doneL (h := fun w7 S => ?_)
    refine useR5 (S.box (b := b + 1 + 1) (o := objN indexError) 0 rfl) fun r0 r1 r2 r3 r4 => ?_
    replace S := Lib.hid S
    repeat (first | go_values | go_skip | go_guarded | go_step)
    refine bodyPost_ret (v := excN indexError) ?_ ?_ ?_
    ·
     simp [results, Tryz.results24, go_sem, r0, r1, r2, r3, r4]
    ·
     rfl
    refine ⟨rfl, ?_⟩
    replace S := S.out
    rw [HBS.out] at S
    exact HF.out _ _ (S.sub (Qs := refR h (H) :: Rt) (.cons _ (.cons_cons _ (.cons _ (.cons _ (List.Sublist.refl _))))))
  | false =>
   have HNP : Hid (¬ (H.kind x = 1 ∧ y.kind = 2)) := Lib.hid (by rw [Hkx_.out]; simpa using HP_.out)
   have KY : QuietC w bA 95 #[agV y] (.bool ky) := Lib.hid fun W Q T => by
    have hh := rkey_ok W y
    rw [Hky_.out] at hh
    exact hh.mono fun e W' ⟨e1, e2⟩ => ⟨e1, T.later e2⟩
   go_upto_region 6 with fail
   go_cut [37] (fun s37 wx => s37 = .bool d ∧ Sep w ([boxE (b + 1 + 1), refR h H] ++ bA) wx)
   case first =>
    by_cases h3 : kx = 3
    ·
     have e1 : (kx == 3) = true := by simp [h3]
     obtain rfl : d = ky := by rw [← HD.out]; simp [h3]
     clear h3
     refine regionL (E := [boxE (b + 1 + 1), refR h H]) (base := bA) S.out ?_
     clear S
     refine qa ?_
     refine qc C0 ?_
     refine qd (.int .i64 kx) [boxE (b + 1 + 1), refR h H] (h1 := fun Wx hSw => by (go_simp; refine symCall ?_; exact rkind_at hSw 1 rfl x kx Hkx_.out)) (h2 := ?_)
     iterate 2 refine qa ?_
     refine qc C1 ?_
     refine qk KY ?_
     iterate 2 refine qa ?_
     refine doneL (h := fun w8 S => ?_)
     replace S := Lib.hid S
     go_wp2_with fail
     go_meet
     exact ⟨rfl, S.out⟩
    ·
     have e1 : (kx == 3) = false := by simp [h3]
     obtain rfl : d = false := by rw [← HD.out]; simp [h3]
     clear h3
     refine regionL (E := [boxE (b + 1 + 1), refR h H]) (base := bA) S.out ?_
     clear S
     refine qa ?_
     refine qc C0 ?_
     refine qd (.int .i64 kx) [boxE (b + 1 + 1), refR h H] (h1 := fun Wx hSw => by (go_simp; refine symCall ?_; exact rkind_at hSw 1 rfl x kx Hkx_.out)) (h2 := ?_)
     iterate 2 refine qa ?_
     iterate 2 refine qz ?_
     iterate 2 refine qa ?_
     refine doneL (h := fun w9 S => ?_)
     replace S := Lib.hid S
     go_wp2_with fail
     go_meet
     exact ⟨rfl, S.out⟩
   case rest =>
    obtain ⟨rfl, S⟩ := hcut
    replace S := Lib.hid S
    cases d with
    | true =>
     obtain ⟨hk3, hkey⟩ : H.kind x = 3 ∧ y.isKey = true := by rw [Hkx_.out, Hky_.out]; simpa using HD.out
     obtain ⟨ok, hok⟩ : ∃ b, H.has x y = b := ⟨_, rfl⟩
     have hv1 : ok = true → r = ansV V.zero := fun e => by rw [← HR.out]; unfold HeapM.diE; rw [if_neg HNP.out, if_pos ⟨hk3, hkey⟩, hok, if_pos e]
     have hv0 : ok = false → r = ansK y := fun e => by rw [← HR.out]; unfold HeapM.diE; rw [if_neg HNP.out, if_pos ⟨hk3, hkey⟩, hok, if_neg (by rw [e]; decide)]
     have hh : H1 = H.del x y := by rw [← HH1.out]; unfold HeapM.diH; rw [if_neg HNP.out, if_pos ⟨hk3, hkey⟩]
     have Xhok := Lib.hid hok
     have Xhv1 := Lib.hid hv1
     have Xhv0 := Lib.hid hv0
     have Xhh := Lib.hid hh
     clear hok hv1 hv0 hh hk3 hkey
     go_upto_region 7 with fail
     refine regionL (E := [boxE (b + 1 + 1), refR h H]) (base := bA) S.out ?_
     clear S
     refine qa ?_
     refine qc C0 ?_
     refine qc C1 ?_
     refine qd (.bool ok) [boxE (b + 1 + 1), refR h H1] (h1 := fun Wx hSw => by (go_simp; refine symCall ?_; have hh := hSw.yDel 1 rfl F x y; rw [Xhok.out, ← Xhh.out] at hh; exact hh)) (h2 := ?_)
     refine qa ?_
     refine doneL (h := fun w10 S => ?_)
     replace S := Lib.hid S
     cases ok with
     | true =>
      obtain rfl := Xhv1.out rfl
      go_upto_region 9 with fail
      refine regionL (E := [boxE (b + 1 + 1), refR h H1]) (base := bA) S.out ?_
      clear S
      refine qa ?_
      refine qd undef [boxE (b + 1 + 1), refR h H1] (h1 := fun Wx hSw => by (have hz := hSw.box (b := (b + 1 + 1)) (o := objE) 0 rfl; refine useZ5 hz fun z0 z1 z2 z3 z4 y0 y1 y2 y3 y4 => ?_; go_simp; exact ⟨rfl, hSw.set5 0 rfl (.string ⟨#[]⟩) (.int .i64 0) (.int .i64 0) (.string ⟨#[]⟩) (.bool false)⟩)) (h2 := ?_)
      refine doneL (h := fun w11 S => ?_)
      refine useR5 (S.box (b := b + 1 + 1) (o := objE) 0 rfl) fun r0 r1 r2 r3 r4 => ?_
      replace S := Lib.hid S
      repeat (first | go_values | go_skip | go_guarded | go_step)
      refine bodyPost_ret (v := excZ) ?_ ?_ ?_
      ·
       simp [results, Tryz.results24, go_sem, r0, r1, r2, r3, r4]
      ·
       rfl
      refine ⟨rfl, ?_⟩
      replace S := S.out
      rw [HBS.out] at S
      exact HF.out _ _ (S.sub (Qs := refR h (H1) :: Rt) (.cons _ (.cons_cons _ (.cons _ (.cons _ (List.Sublist.refl _))))))
     | false =>
      obtain rfl := Xhv0.out rfl
      have KE : QuietC w bA 96 #[agV y] (.agg #[.string keyError, .int .i64 y.kind, .int .i64 y.n, .string y.s, .bool true]) := Lib.hid fun W Q T => by
       exact rlost_ok T y
      go_upto_region 8 with fail
      refine regionL (E := [boxE (b + 1 + 1), refR h H1]) (base := bA) S.out ?_
      clear S
      refine qc C1 ?_
      refine qk KE ?_
      refine qd undef [boxX (b + 1 + 1) keyError y.kind y.n y.s true, refR h H1] (h1 := fun Wx hSw => by (have hz := hSw.box (b := (b + 1 + 1)) (o := objE) 0 rfl; refine useZ5 hz fun z0 z1 z2 z3 z4 y0 y1 y2 y3 y4 => ?_; go_simp; exact ⟨rfl, hSw.set5 0 rfl (.string keyError) (.int .i64 y.kind) (.int .i64 y.n) (.string y.s) (.bool true)⟩)) (h2 := ?_)
      refine doneL (h := fun w12 S => ?_)
      refine useR5 (S.box (b := b + 1 + 1) (o := objX keyError y.kind y.n y.s true) 0 rfl) fun r0 r1 r2 r3 r4 => ?_
      replace S := Lib.hid S
      repeat (first | go_values | go_skip | go_guarded | go_step)
      refine bodyPost_ret (v := .agg #[.string keyError, .int .i64 y.kind, .int .i64 y.n, .string y.s, .bool true]) ?_ ?_ ?_
      ·
       simp [results, Tryz.results24, go_sem, r0, r1, r2, r3, r4]
      ·
       rfl
      refine ⟨rfl, ?_⟩
      replace S := S.out
      rw [HBS.out] at S
      exact HF.out _ _ (S.sub (Qs := refR h (H1) :: Rt) (.cons _ (.cons_cons _ (.cons _ (.cons _ (List.Sublist.refl _))))))
    | false =>
     have hnd : ¬ (H.kind x = 3 ∧ y.isKey = true) := by rw [Hkx_.out, Hky_.out]; simpa using HD.out
     obtain rfl : r = ansN typeError := by rw [← HR.out]; unfold HeapM.diE; rw [if_neg HNP.out, if_neg hnd]
     obtain rfl : H = H1 := by rw [← HH1.out]; unfold HeapM.diH; rw [if_neg HNP.out, if_neg hnd]
     clear hnd
     have KE : QuietC w bA 94 #[.string typeError] (excN typeError) := Lib.hid fun W Q T => by
      exact rexc_ok T _
     go_upto_region 10 with fail
     refine regionL (E := [boxE (b + 1 + 1), refR h H]) (base := bA) S.out ?_
     clear S
     refine qk KE ?_
     refine qd undef [boxN (b + 1 + 1) typeError, refR h H] (h1 := fun Wx hSw => by (have hz := hSw.box (b := (b + 1 + 1)) (o := objE) 0 rfl; refine useZ5 hz fun z0 z1 z2 z3 z4 y0 y1 y2 y3 y4 => ?_; go_simp; exact ⟨rfl, hSw.set5 0 rfl (.string typeError) (.int .i64 0) (.int .i64 0) (.string ⟨#[]⟩) (.bool false)⟩)) (h2 := ?_)
     refine doneL (h := fun w13 S => ?_)
     refine useR5 (S.box (b := b + 1 + 1) (o := objN typeError) 0 rfl) fun r0 r1 r2 r3 r4 => ?_
     replace S := Lib.hid S
     repeat (first | go_values | go_skip | go_guarded | go_step)
     refine bodyPost_ret (v := excN typeError) ?_ ?_ ?_
     ·
      simp [results, Tryz.results24, go_sem, r0, r1, r2, r3, r4]
     ·
      rfl
     refine ⟨rfl, ?_⟩
     replace S := S.out
     rw [HBS.out] at S
     exact HF.out _ _ (S.sub (Qs := refR h (H) :: Rt) (.cons _ (.cons_cons _ (.cons _ (.cons _ (List.Sublist.refl _))))))
theorem rsl_ok (S : Sep w Rs W) (i : Nat) (hi : Rs[i]? = some (refR h H)) {N : Nat} (F : H.Fit N) (hN' : N ≤ 4000000) (x y z : V) (hl : okI (H.last + 1)) (r : AnsM) (hr : H.slA hl x y z = r) (H1 : HeapM) (hh1 : H.slH x y z = H1) : Calls Tryz.prog 20 #[.pointer (some ⟨h, 0, none⟩), .agg #[.int .i64 x.kind, .int .i64 x.n, .string x.s], .agg #[.int .i64 y.kind, .int .i64 y.n, .string y.s], .agg #[.int .i64 z.kind, .int .i64 z.n, .string z.s]] W fun e W' => e = .returned r.val ∧ Sep w (Rs.set i (refR h H1)) W' := by
 have HR := Lib.hid hr
 have HH1 := Lib.hid hh1
 clear hr hh1
 obtain ⟨X1, hX1⟩ : ∃ zz_, H.items x = zz_ := ⟨_, rfl⟩
 have HX1_ := Lib.hid hX1
 clear hX1
 obtain ⟨kx, hkx⟩ : ∃ zz_, H.kind x = zz_ := ⟨_, rfl⟩
 have Hkx_ := Lib.hid hkx
 clear hkx
 obtain ⟨rk, hrk⟩ : ∃ zz_, (if H.rowB x = true then H.kind x else 0) = zz_ := ⟨_, rfl⟩
 have Hrk_ := Lib.hid hrk
 clear hrk
 obtain ⟨e1, he1⟩ : ∃ zz_, endB y = zz_ := ⟨_, rfl⟩
 have He1_ := Lib.hid he1
 clear he1
 obtain ⟨e2, he2⟩ : ∃ zz_, endB z = zz_ := ⟨_, rfl⟩
 have He2_ := Lib.hid he2
 clear he2
 obtain ⟨n, hn⟩ : ∃ zz_, H.slN x = zz_ := ⟨_, rfl⟩
 have Hn_ := Lib.hid hn
 clear hn
 have HL : Hid (X1.length ≤ 4000000) := Lib.hid (by rw [← HX1_.out]; have := F.G.items x; omega)
 have hno : okI n := by rw [← Hn_.out]; unfold HeapM.slN; split; exact okI_of (by have := x.hs; unfold maxLen at this; omega); exact okI_of (by have := F.G.items x; omega)
 obtain ⟨f, hf⟩ : ∃ f, endN y 0 = f := ⟨_, rfl⟩
 obtain ⟨t, ht⟩ : ∃ t, endN z n = t := ⟨_, rfl⟩
 have HF1 := Lib.hid hf
 have HF2 := Lib.hid ht
 have HFO : Hid (okI f ∧ okI t) := Lib.hid ⟨by rw [← hf]; unfold endN; split; decide; exact y.hn, by rw [← ht]; unfold endN; split; exact hno; exact z.hn⟩
 have HNO := Lib.hid hno
 clear hno hf ht
 have hsz : (x.s.size : Int) ≤ 9223372036854775807 := by have := x.hs; unfold maxLen at this; omega
 obtain ⟨b, hb⟩ : ∃ gx_, (W.heap.size) = gx_ := ⟨_, rfl⟩
 replace S := (((((S.alloc (.cells #[.int .i64 x.kind, .int .i64 x.n, .string x.s] 24)).alloc (.cells #[.int .i64 y.kind, .int .i64 y.n, .string y.s] 24)).alloc (.cells #[.int .i64 z.kind, .int .i64 z.n, .string z.s] 24)).alloc (.cells #[.int .i64 0, .int .i64 0, .string ⟨#[]⟩] 24)).alloc (.cells #[.string ⟨#[]⟩, .int .i64 0, .int .i64 0, .string ⟨#[]⟩, .bool false] 33))
 simp only [World.size_alloc, hb] at S
 obtain ⟨Rt, hRt⟩ : ∃ l, l = Rs.eraseIdx i := ⟨_, rfl⟩
 have HF : Hid (∀ H' W', Sep w (refR h H' :: Rt) W' → Sep w (Rs.set i (refR h H')) W') := Lib.hid fun H' W' T => by rw [hRt] at T; exact T.perm (perm_push hi).symm
 obtain ⟨bA, hbs⟩ : ∃ l, l = boxV (b + 1 + 1) z :: boxV (b + 1) y :: boxV b x :: Rt := ⟨_, rfl⟩
 have HBS := Lib.hid hbs
 replace S := enterQ (w := w) (all := [boxE (b + 1 + 1 + 1 + 1), boxZ (b + 1 + 1 + 1), boxV (b + 1 + 1) z, boxV (b + 1) y, boxV b x]) (E := [boxE (b + 1 + 1 + 1 + 1), boxZ (b + 1 + 1 + 1), refR h H]) (B := [boxV (b + 1 + 1) z, boxV (b + 1) y, boxV b x]) (Rs := Rs) S hRt hi hbs (perm_of [0, 1, 5, 2, 3, 4] (by show (List.range' 0 6).Perm [0, 1, 5, 2, 3, 4]; decide) (by rfl))
 clear hRt
 have C2 := baseC3 (w := w) (b := b + 1 + 1) hbs 0 rfl
 have C1 := baseC3 (w := w) (b := b + 1) hbs 1 rfl
 have C0 := baseC3 (w := w) (b := b) hbs 2 rfl
 clear hbs
 replace S := Lib.hid S
 go_enter Tryz.func20, Tryz.ntmps20
 go_upto_region 1 with fail
 try simp only [World.size_alloc, hb]
 clear hb
 refine regionL (E := [boxE (b + 1 + 1 + 1 + 1), boxZ (b + 1 + 1 + 1), refR h H]) (base := bA) S.out ?_
 clear S
 refine qa ?_
 refine qc C0 ?_
 iterate 2 refine qa ?_
 refine doneL (h := fun w1 S => ?_)
 replace S := Lib.hid S
 clear hsz
 have K1 : QuietC w bA 101 #[agV y, .int .i64 0] (.tuple #[.int .i64 f, .bool e1]) := Lib.hid fun W Q T => by
  exact rbound_ok T y 0 f _ HF1.out He1_.out
 have K2 : QuietC w bA 101 #[agV z, .int .i64 n] (.tuple #[.int .i64 t, .bool e2]) := Lib.hid fun W Q T => by
  exact rbound_ok T z n t _ HF2.out He2_.out
 obtain ⟨bad, hbad⟩ : ∃ b, (!H.slOk x y z) = b := ⟨_, rfl⟩
 have HBAD := Lib.hid hbad
 clear hbad
 by_cases hx : x.kind = 3
 ·
  have HX3 := Lib.hid hx
  have hx3 : (x.kind == 3) = true := by simp [hx]
  have hn : n = (x.s.size : Nat) := by rw [← Hn_.out]; unfold HeapM.slN; rw [if_pos hx]
  clear hx
  go_upto_region 2 with fail
  refine regionL (E := [boxE (b + 1 + 1 + 1 + 1), boxZ (b + 1 + 1 + 1), refR h H]) (base := bA) S.out ?_
  clear S
  refine qa ?_
  refine qc C0 ?_
  refine qa ?_
  refine doneL (h := fun w2 S => ?_)
  replace S := Lib.hid S
  subst hn
  go_upto_region 4 with fail
  refine regionL (E := [boxE (b + 1 + 1 + 1 + 1), boxZ (b + 1 + 1 + 1), refR h H]) (base := bA) S.out ?_
  clear S
  refine qc C1 ?_
  refine qk K1 ?_
  iterate 5 refine qa ?_
  refine doneL (h := fun w3 S => ?_)
  replace S := Lib.hid S
  go_upto_region 5 with fail
  refine regionL (E := [boxE (b + 1 + 1 + 1 + 1), boxZ (b + 1 + 1 + 1), refR h H]) (base := bA) S.out ?_
  clear S
  refine qc C2 ?_
  refine qa ?_
  refine qk K2 ?_
  iterate 5 refine qa ?_
  refine doneL (h := fun w4 S => ?_)
  replace S := Lib.hid S
  clear hx3
  have hall : (e1 = false ∧ bad = true) ∨ (e1 = true ∧ e2 = false ∧ bad = true) ∨ (e1 = true ∧ e2 = true ∧ bad = false) := by
   rw [← HBAD.out]; unfold HeapM.slOk; rw [He1_.out, He2_.out, decide_eq_true HX3.out]; cases e1 <;> cases e2 <;> simp
  go_upto_region 6 with fail
  go_cut [53] (fun s53 wx => s53 = .bool bad ∧ Sep w ([boxE (b + 1 + 1 + 1 + 1), boxZ (b + 1 + 1 + 1), refR h H] ++ bA) wx)
  case first =>
   rcases hall with ⟨rfl, rfl⟩ | ⟨rfl, rfl, rfl⟩ | ⟨rfl, rfl, rfl⟩
   ·
    refine regionL (E := [boxE (b + 1 + 1 + 1 + 1), boxZ (b + 1 + 1 + 1), refR h H]) (base := bA) S.out ?_
    clear S
    iterate 3 refine qa ?_
    iterate 2 refine qz ?_
    iterate 2 refine qa ?_
    iterate 9 refine qz ?_
    refine qa ?_
    refine doneL (h := fun w5 S => ?_)
    replace S := Lib.hid S
    go_wp2_with fail
    go_meet
    exact ⟨rfl, S.out⟩
   ·
    refine regionL (E := [boxE (b + 1 + 1 + 1 + 1), boxZ (b + 1 + 1 + 1), refR h H]) (base := bA) S.out ?_
    clear S
    iterate 7 refine qa ?_
    iterate 9 refine qz ?_
    refine qa ?_
    refine doneL (h := fun w6 S => ?_)
    replace S := Lib.hid S
    go_wp2_with fail
    go_meet
    exact ⟨rfl, S.out⟩
   ·
    have hx3 : (x.kind == 3) = true := by simp [HX3.out]
    refine regionL (E := [boxE (b + 1 + 1 + 1 + 1), boxZ (b + 1 + 1 + 1), refR h H]) (base := bA) S.out ?_
    clear S
    iterate 8 refine qa ?_
    refine qc C0 ?_
    iterate 2 refine qa ?_
    iterate 4 refine qz ?_
    iterate 2 refine qa ?_
    refine doneL (h := fun w7 S => ?_)
    replace S := Lib.hid S
    go_wp2_with fail
    go_meet
    exact ⟨rfl, S.out⟩
  case rest =>
   obtain ⟨rfl, S⟩ := hcut
   replace S := Lib.hid S
   clear hall K1 K2
   cases bad with
   | true =>
    have hok : H.slOk x y z = false := by simpa using HBAD.out
    obtain rfl : r = ansN typeError := by rw [← HR.out]; unfold HeapM.slA; rw [if_neg (by rw [hok]; decide)]
    obtain rfl : H = H1 := by rw [← HH1.out]; unfold HeapM.slH; rw [if_neg (by rw [hok]; decide)]
    clear hok
    have KW : QuietC w bA 49 #[] (.tuple #[zeroV, excN typeError]) := Lib.hid fun W Q T => by
     exact rwrong_ok T
    go_upto_region 7 with fail
    refine regionL (E := [boxE (b + 1 + 1 + 1 + 1), boxZ (b + 1 + 1 + 1), refR h H]) (base := bA) S.out ?_
    clear S
    refine qk KW ?_
    iterate 2 refine qa ?_
    refine qd undef [boxE (b + 1 + 1 + 1 + 1), boxZ (b + 1 + 1 + 1), refR h H] (h1 := fun Wx hSw => by (have hz := hSw.box (b := (b + 1 + 1 + 1)) (o := objZ) 1 rfl; refine useZ3 hz fun z0 z1 z2 y0 y1 y2 => ?_; go_simp; exact ⟨rfl, hSw.set3 1 rfl (.int .i64 0) (.int .i64 0) (.string ⟨#[]⟩)⟩)) (h2 := ?_)
    refine qd undef [boxN (b + 1 + 1 + 1 + 1) typeError, boxZ (b + 1 + 1 + 1), refR h H] (h1 := fun Wx hSw => by (have hz := hSw.box (b := (b + 1 + 1 + 1 + 1)) (o := objE) 0 rfl; refine useZ5 hz fun z0 z1 z2 z3 z4 y0 y1 y2 y3 y4 => ?_; go_simp; exact ⟨rfl, hSw.set5 0 rfl (.string typeError) (.int .i64 0) (.int .i64 0) (.string ⟨#[]⟩) (.bool false)⟩)) (h2 := ?_)
    refine doneL (h := fun w8 S => ?_)
    refine useR3 (S.box (b := b + 1 + 1 + 1) (o := objZ) 1 rfl) fun r0 r1 r2 => ?_
    refine useR5 (S.box (b := b + 1 + 1 + 1 + 1) (o := objN typeError) 0 rfl) fun r3 r4 r5 r6 r7 => ?_
    replace S := Lib.hid S
    repeat (first | go_values | go_skip | go_guarded | go_step)
    refine bodyPost_ret (v := .tuple #[zeroV, excN typeError]) ?_ ?_ ?_
    ·
     simp [results, Tryz.results20, go_sem, r0, r1, r2, r3, r4, r5, r6, r7]
    ·
     rfl
    refine ⟨rfl, ?_⟩
    replace S := S.out
    rw [HBS.out] at S
    exact HF.out _ _ (S.sub (Qs := refR h (H) :: Rt) (.cons _ (.cons _ (.cons_cons _ (.cons _ (.cons _ (.cons _ (List.Sublist.refl _))))))))
   | false =>
    obtain ⟨xs, hxs⟩ : ∃ s, s = x.s.extract (lowI x.s f).toNat (highI x.s f t).toNat := ⟨_, rfl⟩
    have HXS := Lib.hid hxs
    have hok : H.slOk x y z = true := by simpa using HBAD.out
    obtain rfl : r = ansV (subV x (lowI x.s f).toNat (highI x.s f t).toNat) := by rw [← HR.out]; unfold HeapM.slA; rw [if_pos hok, if_pos HX3.out, Hn_.out, HF1.out, HF2.out]
    obtain rfl : H = H1 := by rw [← HH1.out]; unfold HeapM.slH; rw [if_pos hok, if_pos HX3.out]
    clear hok hxs
    have hx3 : (x.kind == 3) = true := by simp [HX3.out]
    go_upto_region 8 with fail
    refine regionL (E := [boxE (b + 1 + 1 + 1 + 1), boxZ (b + 1 + 1 + 1), refR h H]) (base := bA) S.out ?_
    clear S
    refine qa ?_
    refine qc C0 ?_
    refine qa ?_
    refine doneL (h := fun w9 S => ?_)
    replace S := Lib.hid S
    have KS : QuietC w bA 102 #[.string x.s, .int .i64 f, .int .i64 t] (.string xs) := Lib.hid fun W Q T => by
     rw [HXS.out]
     exact (ref_slice x.s f t W x.hs (okI_range HFO.out.1).1 (okI_range HFO.out.1).2 (okI_range HFO.out.2).1 (okI_range HFO.out.2).2).mono fun e W' ⟨e1, e2⟩ => ⟨e1, by rw [← e2]; exact T⟩
    have KO : QuietC w bA 57 #[.string xs] (.agg #[.int .i64 3, .int .i64 0, .string xs]) := Lib.hid fun W Q T => by
     exact (rstr_z W _).mono fun e W' ⟨e1, e2⟩ => ⟨e1, T.later e2⟩
    go_upto_region 9 with fail
    refine regionL (E := [boxE (b + 1 + 1 + 1 + 1), boxZ (b + 1 + 1 + 1), refR h H]) (base := bA) S.out ?_
    clear S
    refine qa ?_
    refine qc C0 ?_
    iterate 2 refine qa ?_
    refine qk KS ?_
    refine qk KO ?_
    refine qa ?_
    refine qd undef [boxE (b + 1 + 1 + 1 + 1), boxW (b + 1 + 1 + 1) 3 0 xs, refR h H] (h1 := fun Wx hSw => by (have hz := hSw.box (b := (b + 1 + 1 + 1)) (o := objZ) 1 rfl; refine useZ3 hz fun z0 z1 z2 y0 y1 y2 => ?_; go_simp; exact ⟨rfl, hSw.set3 1 rfl (.int .i64 3) (.int .i64 0) (.string xs)⟩)) (h2 := ?_)
    refine qd undef [boxE (b + 1 + 1 + 1 + 1), boxW (b + 1 + 1 + 1) 3 0 xs, refR h H] (h1 := fun Wx hSw => by (have hz := hSw.box (b := (b + 1 + 1 + 1 + 1)) (o := objE) 0 rfl; refine useZ5 hz fun z0 z1 z2 z3 z4 y0 y1 y2 y3 y4 => ?_; go_simp; exact ⟨rfl, hSw.set5 0 rfl (.string ⟨#[]⟩) (.int .i64 0) (.int .i64 0) (.string ⟨#[]⟩) (.bool false)⟩)) (h2 := ?_)
    refine doneL (h := fun w10 S => ?_)
    refine useR3 (S.box (b := b + 1 + 1 + 1) (o := objW 3 0 xs) 1 rfl) fun r0 r1 r2 => ?_
    refine useR5 (S.box (b := b + 1 + 1 + 1 + 1) (o := objE) 0 rfl) fun r3 r4 r5 r6 r7 => ?_
    replace S := Lib.hid S
    repeat (first | go_values | go_skip | go_guarded | go_step)
    refine bodyPost_ret (v := .tuple #[.agg #[.int .i64 3, .int .i64 0, .string xs], excZ]) ?_ ?_ ?_
    ·
     simp [results, Tryz.results20, go_sem, r0, r1, r2, r3, r4, r5, r6, r7]
    ·
     rfl
    refine ⟨by rw [HXS.out]; rfl, ?_⟩
    replace S := S.out
    rw [HBS.out] at S
    exact HF.out _ _ (S.sub (Qs := refR h (H) :: Rt) (.cons _ (.cons _ (.cons_cons _ (.cons _ (.cons _ (.cons _ (List.Sublist.refl _))))))))
 ·
  have HX3 := Lib.hid hx
  have hx3 : (x.kind == 3) = false := by simp [hx]
  have hn : n = (X1.length : Nat) := by rw [← Hn_.out]; unfold HeapM.slN; rw [if_neg hx, HX1_.out]
  clear hx
  go_upto_region 2 with fail
  refine regionL (E := [boxE (b + 1 + 1 + 1 + 1), boxZ (b + 1 + 1 + 1), refR h H]) (base := bA) S.out ?_
  clear S
  refine qa ?_
  refine qc C0 ?_
  refine qa ?_
  refine doneL (h := fun w11 S => ?_)
  replace S := Lib.hid S
  go_upto_region 3 with fail
  refine regionL (E := [boxE (b + 1 + 1 + 1 + 1), boxZ (b + 1 + 1 + 1), refR h H]) (base := bA) S.out ?_
  clear S
  refine qa ?_
  refine qc C0 ?_
  refine qd (.int .i64 X1.length) [boxE (b + 1 + 1 + 1 + 1), boxZ (b + 1 + 1 + 1), refR h H] (h1 := fun Wx hSw => by (go_simp; refine symCall ?_; exact rlen_ok hSw 2 rfl F.G (by omega) x X1.length (by rw [HX1_.out]))) (h2 := ?_)
  refine qa ?_
  refine doneL (h := fun w12 S => ?_)
  replace S := Lib.hid S
  subst hn
  go_upto_region 4 with fail
  refine regionL (E := [boxE (b + 1 + 1 + 1 + 1), boxZ (b + 1 + 1 + 1), refR h H]) (base := bA) S.out ?_
  clear S
  refine qc C1 ?_
  refine qk K1 ?_
  iterate 5 refine qa ?_
  refine doneL (h := fun w13 S => ?_)
  replace S := Lib.hid S
  go_upto_region 5 with fail
  refine regionL (E := [boxE (b + 1 + 1 + 1 + 1), boxZ (b + 1 + 1 + 1), refR h H]) (base := bA) S.out ?_
  clear S
  refine qc C2 ?_
  refine qa ?_
  refine qk K2 ?_
  iterate 5 refine qa ?_
  refine doneL (h := fun w14 S => ?_)
  replace S := Lib.hid S
  clear hx3
  have hall : (e1 = false ∧ bad = true) ∨ (e1 = true ∧ e2 = false ∧ bad = true) ∨ (e1 = true ∧ e2 = true ∧ bad = (rk == 0)) := by
   rw [← HBAD.out]; unfold HeapM.slOk; rw [He1_.out, He2_.out, decide_eq_false HX3.out]
   have hrb : (!H.rowB x) = (rk == 0) := by
    rw [← Hrk_.out]
    cases e : H.rowB x with
    | true => have := HeapM.rowB_kind e; simp; omega
    | false => simp
   rw [← hrb]; cases e1 <;> cases e2 <;> simp
  go_upto_region 6 with fail
  go_cut [53] (fun s53 wx => s53 = .bool bad ∧ Sep w ([boxE (b + 1 + 1 + 1 + 1), boxZ (b + 1 + 1 + 1), refR h H] ++ bA) wx)
  case first =>
   rcases hall with ⟨rfl, rfl⟩ | ⟨rfl, rfl, rfl⟩ | ⟨rfl, rfl, hb⟩
   ·
    refine regionL (E := [boxE (b + 1 + 1 + 1 + 1), boxZ (b + 1 + 1 + 1), refR h H]) (base := bA) S.out ?_
    clear S
    iterate 3 refine qa ?_
    iterate 2 refine qz ?_
    iterate 2 refine qa ?_
    iterate 9 refine qz ?_
    refine qa ?_
    refine doneL (h := fun w15 S => ?_)
    replace S := Lib.hid S
    go_wp2_with fail
    go_meet
    exact ⟨rfl, S.out⟩
   ·
    refine regionL (E := [boxE (b + 1 + 1 + 1 + 1), boxZ (b + 1 + 1 + 1), refR h H]) (base := bA) S.out ?_
    clear S
    iterate 7 refine qa ?_
    iterate 9 refine qz ?_
    refine qa ?_
    refine doneL (h := fun w16 S => ?_)
    replace S := Lib.hid S
    go_wp2_with fail
    go_meet
    exact ⟨rfl, S.out⟩
   ·
    have hx3 : (x.kind == 3) = false := by simp [HX3.out]
    have HBR := Lib.hid (show bad = (rk == 0) from hb)
    clear hb
    refine regionL (E := [boxE (b + 1 + 1 + 1 + 1), boxZ (b + 1 + 1 + 1), refR h H]) (base := bA) S.out ?_
    clear S
    iterate 8 refine qa ?_
    refine qc C0 ?_
    iterate 3 refine qa ?_
    refine qc C0 ?_
    refine qd (.int .i64 rk) [boxE (b + 1 + 1 + 1 + 1), boxZ (b + 1 + 1 + 1), refR h H] (h1 := fun Wx hSw => by (go_simp; refine symCall ?_; exact rrow_ok hSw 2 rfl x rk Hrk_.out)) (h2 := ?_)
    refine qa (v := .bool bad) (hy := fun E Wx hSw => by (go_simp; rw [HBR.out]; exact ⟨rfl, hSw⟩)) (h := ?_)
    iterate 2 refine qa ?_
    refine doneL (h := fun w17 S => ?_)
    replace S := Lib.hid S
    go_wp2_with fail
    go_meet
    exact ⟨rfl, S.out⟩
  case rest =>
   obtain ⟨rfl, S⟩ := hcut
   replace S := Lib.hid S
   clear hall K1 K2
   cases bad with
   | true =>
    have hok : H.slOk x y z = false := by simpa using HBAD.out
    obtain rfl : r = ansN typeError := by rw [← HR.out]; unfold HeapM.slA; rw [if_neg (by rw [hok]; decide)]
    obtain rfl : H = H1 := by rw [← HH1.out]; unfold HeapM.slH; rw [if_neg (by rw [hok]; decide)]
    clear hok
    have KW : QuietC w bA 49 #[] (.tuple #[zeroV, excN typeError]) := Lib.hid fun W Q T => by
     exact rwrong_ok T
    go_upto_region 7 with fail
    refine regionL (E := [boxE (b + 1 + 1 + 1 + 1), boxZ (b + 1 + 1 + 1), refR h H]) (base := bA) S.out ?_
    clear S
    refine qk KW ?_
    iterate 2 refine qa ?_
    refine qd undef [boxE (b + 1 + 1 + 1 + 1), boxZ (b + 1 + 1 + 1), refR h H] (h1 := fun Wx hSw => by (have hz := hSw.box (b := (b + 1 + 1 + 1)) (o := objZ) 1 rfl; refine useZ3 hz fun z0 z1 z2 y0 y1 y2 => ?_; go_simp; exact ⟨rfl, hSw.set3 1 rfl (.int .i64 0) (.int .i64 0) (.string ⟨#[]⟩)⟩)) (h2 := ?_)
    refine qd undef [boxN (b + 1 + 1 + 1 + 1) typeError, boxZ (b + 1 + 1 + 1), refR h H] (h1 := fun Wx hSw => by (have hz := hSw.box (b := (b + 1 + 1 + 1 + 1)) (o := objE) 0 rfl; refine useZ5 hz fun z0 z1 z2 z3 z4 y0 y1 y2 y3 y4 => ?_; go_simp; exact ⟨rfl, hSw.set5 0 rfl (.string typeError) (.int .i64 0) (.int .i64 0) (.string ⟨#[]⟩) (.bool false)⟩)) (h2 := ?_)
    refine doneL (h := fun w18 S => ?_)
    refine useR3 (S.box (b := b + 1 + 1 + 1) (o := objZ) 1 rfl) fun r0 r1 r2 => ?_
    refine useR5 (S.box (b := b + 1 + 1 + 1 + 1) (o := objN typeError) 0 rfl) fun r3 r4 r5 r6 r7 => ?_
    replace S := Lib.hid S
    repeat (first | go_values | go_skip | go_guarded | go_step)
    refine bodyPost_ret (v := .tuple #[zeroV, excN typeError]) ?_ ?_ ?_
    ·
     simp [results, Tryz.results20, go_sem, r0, r1, r2, r3, r4, r5, r6, r7]
    ·
     rfl
    refine ⟨rfl, ?_⟩
    replace S := S.out
    rw [HBS.out] at S
    exact HF.out _ _ (S.sub (Qs := refR h (H) :: Rt) (.cons _ (.cons _ (.cons_cons _ (.cons _ (.cons _ (.cons _ (List.Sublist.refl _))))))))
   | false =>
    have hok : H.slOk x y z = true := by simpa using HBAD.out
    have hrow : H.rowB x = true := by have e := hok; unfold HeapM.slOk at e; rw [decide_eq_false HX3.out] at e; simp at e; exact e.1
    obtain rfl : r = ansV (V.ref (H.last + 1) hl) := by rw [← HR.out]; unfold HeapM.slA; rw [if_pos hok, if_neg HX3.out]
    have hko : okI kx := by rw [← Hkx_.out]; exact H.okKind x
    have hh : H1 = H.add (rowO kx hko (sliceL X1 f t)) := by rw [← HH1.out]; unfold HeapM.slH HeapM.slObj; rw [if_pos hok, if_neg HX3.out]; rw [HX1_.out, Hn_.out, HF1.out, HF2.out]; exact congrArg H.add (rowO_eq Hkx_.out _ _ _)
    have hkb : 1 ≤ kx ∧ kx ≤ 12 := by have := HeapM.rowB_kind hrow; rw [Hkx_.out] at this; omega
    have HH := Lib.hid hh
    have HKB := Lib.hid hkb
    clear hok hrow hh hkb
    have hx3 : (x.kind == 3) = false := by simp [HX3.out]
    go_upto_region 8 with fail
    refine regionL (E := [boxE (b + 1 + 1 + 1 + 1), boxZ (b + 1 + 1 + 1), refR h H]) (base := bA) S.out ?_
    clear S
    refine qa ?_
    refine qc C0 ?_
    refine qa ?_
    refine doneL (h := fun w19 S => ?_)
    replace S := Lib.hid S
    obtain ⟨hq1, hq2, hq3, hq4⟩ := lowN_eq X1.length f t
    obtain ⟨i0, hi0⟩ : ∃ i, i = lowN X1.length f := ⟨_, rfl⟩
    obtain ⟨k0, hk0⟩ : ∃ i, i = highN X1.length f t := ⟨_, rfl⟩
    rw [← hi0] at hq1 hq3
    rw [← hk0] at hq2 hq3 hq4
    have HI0 := Lib.hid hi0
    have HK0 := Lib.hid hk0
    have HQ1 := Lib.hid hq1
    have HQ2 := Lib.hid hq2
    have HQ := Lib.hid (And.intro hq3 hq4)
    clear hq1 hq2 hi0 hk0
    have KB : QuietC w bA 103 #[.int .i64 X1.length, .int .i64 f, .int .i64 t] (.tuple #[.int .i64 i0, .int .i64 k0]) := Lib.hid fun W Q T => by
     have hh := ref_bounds X1.length f t W (by omega) (by have := HL.out; omega) (okI_range HFO.out.1).1 (okI_range HFO.out.1).2 (okI_range HFO.out.2).1 (okI_range HFO.out.2).2
     rw [HQ2.out, HQ1.out] at hh
     exact hh.mono fun e W' ⟨e1, e2⟩ => ⟨e1, by rw [← e2]; exact T⟩
    go_upto_region 10 with fail
    refine regionL (E := [boxE (b + 1 + 1 + 1 + 1), boxZ (b + 1 + 1 + 1), refR h H]) (base := bA) S.out ?_
    clear S
    iterate 3 refine qa ?_
    refine qk KB ?_
    iterate 5 refine qa ?_
    refine doneL (h := fun w20 S => ?_)
    replace S := Lib.hid S
    have hq3 := HQ.out.1
    have hqi : (i0 : Int) ≤ k0 := by omega
    have hq0 : (0 : Int) ≤ i0 := by omega
    go_upto_region 11 with fail
    go_cut [] (fun  wx => ∃ a3 c3, Sep w ([valsR (.slice a3 X1.length c3) X1, boxE (b + 1 + 1 + 1 + 1), boxW (b + 1 + 1 + 1) 4 (H.last + 1) ⟨#[]⟩, refR h H1] ++ bA) wx)
    case first =>
     refine regionP 3 11 (E := [emptyR, boxE (b + 1 + 1 + 1 + 1), boxZ (b + 1 + 1 + 1), refR h H]) (base := bA) (Sep.putE S.out) ?_
     clear S
     iterate 2 refine qp ?_
     refine qpc C0 ?_
     refine endP ?_
     refine qs 4 ?_
     refine qsc 5 C0 ?_
     refine qs 7 ?_
     refine qs 8 ?_
     refine qs 11 ?_
     refine readyS [3] ?_
     refine detS (.int .i64 kx) [emptyR, boxE (b + 1 + 1 + 1 + 1), boxZ (b + 1 + 1 + 1), refR h H] (h1 := fun Wx hSw => by (go_simp; refine symCall ?_; exact rkind_at hSw 3 rfl x kx Hkx_.out)) (h2 := ?_) (hs := nilS); simp only [Act.put, pa]; try dsimp only [List.set]
     refine readyS [6] ?_
     refine stepS (fun v E1 => ∃ (a_21_2 : Option Addr) (c_21_2 : Nat), v = .slice a_21_2 X1.length c_21_2 ∧ E1 = [valsR (.slice a_21_2 X1.length c_21_2) X1, boxE (b + 1 + 1 + 1 + 1), boxZ (b + 1 + 1 + 1), refR h H]) (h1 := fun Wx hSw => by (go_simp; refine symCallN ?_; exact (ritems_at hSw 3 rfl F.G (by omega) x X1 HX1_.out).mono fun e W' ⟨a, c, e1, e2⟩ => ⟨_, _, e1, ⟨a, c, rfl, rfl⟩, e2.into 0 rfl⟩)) (h2 := fun v E1 hvE => ?_) (hs := nilS)
     obtain ⟨a_21_2, c_21_2, rfl, rfl⟩ := hvE; simp only [Act.put, pa]; try dsimp only [List.set]
     refine readyS [9] ?_
     refine detS (.slice (cutAt a_21_2 i0 c_21_2) (k0 - i0) (c_21_2 - i0)) [valsR (.slice a_21_2 X1.length c_21_2) X1, boxE (b + 1 + 1 + 1 + 1), boxZ (b + 1 + 1 + 1), refR h H] (h1 := fun Wx hSw => by (obtain ⟨_, hcc, hcb⟩ := hSw.caps 0 rfl; have hkc : (k0 : Int) ≤ c_21_2 := (by have := HQ.out.2; omega); go_simp; exact ⟨rfl, hSw⟩)) (h2 := ?_) (hs := nilS); simp only [Act.put, pa]; try dsimp only [List.set]
     refine readyS [10] ?_
     refine detS (.agg #[.int .i64 4, .int .i64 (H.last + 1), .string ⟨#[]⟩]) [valsR (.slice a_21_2 X1.length c_21_2) X1, boxE (b + 1 + 1 + 1 + 1), boxZ (b + 1 + 1 + 1), refR h H1] (h1 := fun Wx hSw => by (go_simp; refine symCall ?_; have hh := hSw.yMake 3 rfl F.G (rowO kx hko (sliceL X1 f t)) rfl HKB.out.1 HKB.out.2 (.slice (cutAt a_21_2 i0 c_21_2) (k0 - i0) (c_21_2 - i0)) (fun W' T => (by have hc := T.caps 0 rfl; have hs := (T.seesV 0 rfl).cutC rfl HQ.out.1 HQ.out.2 (Nat.le_trans HQ.out.2 hc.2.1); show SeesV W' _ (sliceL X1 f t); unfold sliceL; rw [← HI0.out, ← HK0.out]; exact hs)) (by omega) (by show (sliceL X1 f t).length ≤ 4000000; rw [sliceL_len]; have := HQ.out.2; have := HL.out; rw [← HK0.out]; omega); rw [← HH.out] at hh; exact hh)) (h2 := ?_) (hs := nilS); simp only [Act.put, pa]; try dsimp only [List.set]
     refine readyS [12] ?_
     refine detS undef [valsR (.slice a_21_2 X1.length c_21_2) X1, boxE (b + 1 + 1 + 1 + 1), boxW (b + 1 + 1 + 1) 4 (H.last + 1) ⟨#[]⟩, refR h H1] (h1 := fun Wx hSw => by (have hz := hSw.box (b := (b + 1 + 1 + 1)) (o := objZ) 2 rfl; refine useZ3 hz fun z0 z1 z2 y0 y1 y2 => ?_; go_simp; exact ⟨rfl, hSw.set3 2 rfl (.int .i64 4) (.int .i64 (H.last + 1)) (.string ⟨#[]⟩)⟩)) (h2 := ?_) (hs := nilS); simp only [Act.put, pa]; try dsimp only [List.set]
     refine readyS [13] ?_
     refine detS undef [valsR (.slice a_21_2 X1.length c_21_2) X1, boxE (b + 1 + 1 + 1 + 1), boxW (b + 1 + 1 + 1) 4 (H.last + 1) ⟨#[]⟩, refR h H1] (h1 := fun Wx hSw => by (have hz := hSw.box (b := (b + 1 + 1 + 1 + 1)) (o := objE) 1 rfl; refine useZ5 hz fun z0 z1 z2 z3 z4 y0 y1 y2 y3 y4 => ?_; go_simp; exact ⟨rfl, hSw.set5 1 rfl (.string ⟨#[]⟩) (.int .i64 0) (.int .i64 0) (.string ⟨#[]⟩) (.bool false)⟩)) (h2 := ?_) (hs := nilS); simp only [Act.put, pa]; try dsimp only [List.set]
     refine doneS (h := fun w21 S => ?_)
     go_wp2_with fail
     go_meet
     exact ⟨_, _, S⟩
    case rest =>
     obtain ⟨a3, c3, S⟩ := hcut
     replace S := Lib.hid S
     clear hq3 hqi hq0
     replace S := S.out
     refine useR3 (S.box (b := b + 1 + 1 + 1) (o := objW 4 (H.last + 1) ⟨#[]⟩) 2 rfl) fun r0 r1 r2 => ?_
     refine useR5 (S.box (b := b + 1 + 1 + 1 + 1) (o := objE) 1 rfl) fun r3 r4 r5 r6 r7 => ?_
     replace S := Lib.hid S
     repeat (first | go_values | go_skip | go_guarded | go_step)
     refine bodyPost_ret (v := .tuple #[.agg #[.int .i64 4, .int .i64 (H.last + 1), .string ⟨#[]⟩], excZ]) ?_ ?_ ?_
     ·
      simp [results, Tryz.results20, go_sem, r0, r1, r2, r3, r4, r5, r6, r7]
     ·
      rfl
     refine ⟨rfl, ?_⟩
     replace S := S.out
     rw [HBS.out] at S
     exact HF.out _ _ (S.sub (Qs := refR h H1 :: Rt) (.cons _ (.cons _ (.cons _ (.cons_cons _ (.cons _ (.cons _ (.cons _ (List.Sublist.refl _)))))))))
end
end Go.Proofs.YtijlebhoapdfnaaGreat
