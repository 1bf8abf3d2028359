import Derived.Test.YtijlebhoapdfnaaGreatOprE
import Derived.Test.YtijlebhoapdfnaaGreatRegS
import Derived.Test.YtijlebhoapdfnaaGreatText1
import Derived.Test.YtijlebhoapdfnaaGreatNumT
import Derived.Shelf.Strings.Builder1
import Derived.Shelf.Strings.Builder2
import Derived.Shelf.Small.Bits
import Derived.Shelf.Small.Wraps
import Derived.Shelf.Strings.BuilderF
import Derived.Shelf.Strconv.Itoa0
import Derived.Shelf.Strings.Search1
import Derived.Shelf.Strings.Search2
import Derived.Shelf.Strings.Search3
import Derived.Shelf.LaysM
import Derived.Shelf.Strings.Shaped
import Derived.Shelf.Strings.Prefix
import Derived.Shelf.Bits.Mul64
import Derived.Shelf.Strings.Repeat
import Derived.Ground.Names2Prog
import Derived.Shelf.Slices.SearchI
import Derived.Test.YtijlebhoapdfnaaGreatProg
/-
 DERIVED: THE SHELF's CONTRACTS AT THIS DUMP, IN PLAIN WORDS (tools/lay-plain.mjs out of 'TryzShelf.lean', which tools/lay-shelf.mjs wrote): THE SAME DECLARATIONS UNDER THE SAME NAMES: 'import', 'namespace', 'open', 'def', 'theorem' AND NOTHING ELSE: no command of the shelf's: FOR A HAND-IN. Each laying: the table of numbers ('.._ren') and one theorem, a field a fact of the dump's own or the kernel's comparison; each contract: ONE APPLICATION.
-/
namespace Go.Proofs
open Go.Shelf
end Go.Proofs
set_option maxHeartbeats 400000
namespace Go.Proofs.YtijlebhoapdfnaaGreat
set_option linter.unusedSimpArgs false
open Go.RowKit
set_option linter.unusedVariables false
def lowI (s : ByteArray) (f : Int) : Int := placeI (max (s.size : Int) 0) f
def highI (s : ByteArray) (f t : Int) : Int := max (placeI (max (s.size : Int) 0) f) (placeI (max (s.size : Int) 0) t)
theorem lowI_le (s : ByteArray) (f t : Int) : 0 ≤ lowI s f ∧ lowI s f ≤ highI s f t ∧ highI s f t ≤ s.size := by
 have h1 := placeI_le (max (s.size : Int) 0) f (by omega)
 have h2 := placeI_le (max (s.size : Int) 0) t (by omega)
 unfold lowI highI; omega
theorem slice_i (s : ByteArray) (f t : Int) (w : World) (hs : s.size ≤ maxLen) (hf : -9223372036854775808 ≤ f) (hf' : f ≤ 9223372036854775807) (ht : -9223372036854775808 ≤ t) (ht' : t ≤ 9223372036854775807) :
  Calls Tryz.prog 98 #[.string s, .int .i64 f, .int .i64 t] w fun e w' => e = .returned (.string (s.extract (lowI s f).toNat (highI s f t).toNat)) ∧ Below w.heap.size w w' := by
 unfold maxLen at hs
 have hb := lowI_le s f t
 go_enter Tryz.func98, Tryz.ntmps98
 go_wp2_with fail
 refine (bounds_i s.size f t _ (by omega) (by omega) hf hf' ht ht').mono ?_
 rintro e w' ⟨rfl, hw⟩
 change Below _ _ _ at hw
 rw [show placeI (max (s.size : Int) 0) f = lowI s f from rfl, show max (lowI s f) (placeI (max (s.size : Int) 0) t) = highI s f t from rfl]
 go_wp2
 go_ret
 exact ⟨rfl, hw⟩
end Go.Proofs.YtijlebhoapdfnaaGreat
/- ch 16: add, of strs and rows. -/
set_option maxRecDepth 100000
namespace Go.Proofs.YtijlebhoapdfnaaGreat
set_option linter.unusedSimpArgs false
open Go.RowKit
set_option linter.unusedVariables false
theorem HeapM.kind_ref (H : HeapM) (v : V) (h : H.kind v ≠ 0) : v.kind = 4 := by
 unfold HeapM.kind HeapM.of at h
 by_cases e : v.kind = 4
 ·
  exact e
 ·
  rw [if_neg e] at h; simp at h
theorem HeapM.rowB_kind {H : HeapM} {v : V} (h : H.rowB v = true) : H.kind v = 1 ∨ H.kind v = 2 := by
 unfold HeapM.rowB at h; simpa using h
section
variable {w W : World} {Rs : List Res} {h : Nat} {H : HeapM}
theorem opi_items (S : Sep w Rs W) (i : Nat) (hi : Rs[i]? = some (heapR h H)) {N : Nat} (G : H.Good N) (hN : N ≤ 4000000) (v : V) :
  Calls Tryz.prog 78 #[.pointer (some ⟨h, 0, none⟩), .agg #[.int .i64 v.kind, .int .i64 v.n, .string v.s]] W fun e W' => ∃ a c, e = .returned (.slice a (H.items v).length c) ∧ Sep w (valsR (.slice a (H.items v).length c) (H.items v) :: Rs) W' := by
 refine (S.items i hi G hN v).mono fun e W' ⟨sv, h1, h2, _⟩ => ?_
 obtain ⟨a, c, hsv⟩ := (h2.row 0 rfl).form
 rw [hsv] at h1 h2
 exact ⟨a, c, h1, h2⟩
end
end Go.Proofs.YtijlebhoapdfnaaGreat
/- ch 16: the small ones: place, end, lost, str, num. -/
namespace Go.Proofs.YtijlebhoapdfnaaGreat
set_option linter.unusedSimpArgs false
open Go.RowKit
set_option linter.unusedVariables false
section
variable {w W : World} {Rs : List Res} {h : Nat} {H : HeapM}
/-- The place of an index in so many. -/
def placeP (n : Nat) (i : Int) : Int := if i < 0 then i + n else i
def inP (n : Nat) (i : Int) : Bool := decide (0 ≤ placeP n i) && decide (placeP n i < n)
theorem place_ok (W : World) (n : Nat) (i : Int) (hn : n ≤ 9000000) (hi : (Lit.int .i64 i).wf = true) : Calls Tryz.prog 85 #[.int .i64 n, .int .i64 i] W fun e W' => e = .returned (.tuple #[.int .i64 (placeP n i), .bool (inP n i)]) ∧ W' = W := by
 have hb : -9223372036854775808 ≤ i ∧ i ≤ 9223372036854775807 := okI_range hi
 have hnn : (n : Int) ≤ 9000000 := by omega
 have hn0 : (0 : Int) ≤ n := by omega
 obtain ⟨p, hp⟩ : ∃ p, p = placeP n i := ⟨_, rfl⟩
 have hr : inP n i = (decide (0 ≤ p) && decide (p < n)) := by rw [hp]; rfl
 obtain ⟨r, hr1⟩ : ∃ r, r = (decide (0 ≤ p) && decide (p < n)) := ⟨_, rfl⟩
 rw [hr, ← hp, ← hr1]
 clear hr
 by_cases h0 : i < 0
 ·
  have e : p = i + n := by rw [hp, placeP, if_pos h0]
  have hw : IntKind.i64.wrap (i + n) = i + n := IntWalk.i64_in (i + n) (by omega)
  subst e
  clear hp hi
  by_cases h1 : 0 ≤ i + n
  ·
   by_cases h2 : i + n < n
   ·
    obtain rfl : r = true := by rw [hr1]; simp [h1, h2]
    clear hr1
    go_enter Tryz.func85, Tryz.ntmps85
    go_wp2
    exact bodyPost_ret (v := .tuple #[.int .i64 (i + n), .bool true]) (by simp [results, Tryz.results85, go_sem, h1, h2]) rfl ⟨rfl, rfl⟩
   ·
    obtain rfl : r = false := by rw [hr1]; simp [h2]
    clear hr1
    go_enter Tryz.func85, Tryz.ntmps85
    go_wp2
    exact bodyPost_ret (v := .tuple #[.int .i64 (i + n), .bool false]) (by simp [results, Tryz.results85, go_sem, h1, h2]) rfl ⟨rfl, rfl⟩
  ·
   obtain rfl : r = false := by rw [hr1]; simp [h1]
   clear hr1
   go_enter Tryz.func85, Tryz.ntmps85
   go_wp2
   exact bodyPost_ret (v := .tuple #[.int .i64 (i + n), .bool false]) (by simp [results, Tryz.results85, go_sem, h1]) rfl ⟨rfl, rfl⟩
 ·
  have e : p = i := by rw [hp, placeP, if_neg h0]
  subst e
  clear hp hi
  have h1 : 0 ≤ p := by omega
  by_cases h2 : p < n
  ·
   obtain rfl : r = true := by rw [hr1]; simp [h1, h2]
   clear hr1
   go_enter Tryz.func85, Tryz.ntmps85
   go_wp2
   exact bodyPost_ret (v := .tuple #[.int .i64 p, .bool true]) (by simp [results, Tryz.results85, go_sem, h1, h2]) rfl ⟨rfl, rfl⟩
  ·
   obtain rfl : r = false := by rw [hr1]; simp [h2]
   clear hr1
   go_enter Tryz.func85, Tryz.ntmps85
   go_wp2
   exact bodyPost_ret (v := .tuple #[.int .i64 p, .bool false]) (by simp [results, Tryz.results85, go_sem, h1, h2]) rfl ⟨rfl, rfl⟩
theorem ostr_z (W : World) (s : ByteArray) : Calls Tryz.prog 82 #[.string s, .string ⟨#[]⟩] W fun e W' => e = .returned (.tuple #[.agg #[.int .i64 3, .int .i64 0, .string s], excZ]) ∧ Below W.heap.size W W' := by
 go_enter Tryz.func82, Tryz.ntmps82
 go_wp2
 exact bodyPost_ret (v := .tuple #[.agg #[.int .i64 3, .int .i64 0, .string s], excZ]) (by simp [results, Tryz.results82, go_sem]) rfl ⟨rfl, by exact belowA⟩
end
end Go.Proofs.YtijlebhoapdfnaaGreat
/- ch 16: the laws' plain. -/
set_option maxRecDepth 100000
set_option maxHeartbeats 12800000
namespace Go.Proofs.YtijlebhoapdfnaaGreat
set_option linter.unusedSimpArgs false
open Go.RowKit
set_option linter.unusedVariables false
/-- n & 15, as the model has it. -/
def low15 (n : Int) : Int := bits .and .i64 n 15
theorem low15_in (x : Int) : 0 ≤ low15 x ∧ low15 x ≤ 15 := by
 have h : (BitVec.ofInt 64 x &&& BitVec.ofInt 64 15).toNat ≤ 15 := by
  rw [BitVec.toNat_and]; exact Nat.le_trans Nat.and_le_right (by decide)
 have e : low15 x = IntKind.wrap .i64 ((BitVec.ofInt 64 x &&& BitVec.ofInt 64 15).toNat : Int) := rfl
 have e2 : IntKind.wrap .i64 ((BitVec.ofInt 64 x &&& BitVec.ofInt 64 15).toNat : Int) = ((BitVec.ofInt 64 x &&& BitVec.ofInt 64 15).toNat : Int) := IntWalk.i64_in _ (by omega)
 rw [e, e2]
 omega
/-- A value whose text has eight bytes at most, and whose object is one of sixteen. -/
def plainV (v : V) : V := ⟨v.kind, if v.kind = 4 then low15 v.n else v.n, v.s.extract 0 (min v.s.size 8), v.hk, by
 split
 ·
  have := low15_in v.n; exact okI_of (by omega)
 ·
  exact v.hn, by have := v.hs; rw [ByteArray.size_extract]; omega⟩
section
variable {w W : World} {Rs : List Res} {h : Nat} {H : HeapM}
theorem plain_no (S : Sep w Rs W) (x : V) (hr : ¬ x.kind = 4) : Calls Tryz.prog 9 #[.agg #[.int .i64 x.kind, .int .i64 x.n, .string x.s]] W fun e W' => e = .returned (.agg #[.int .i64 x.kind, .int .i64 x.n, .string (x.s.extract 0 (min x.s.size 8))]) ∧ Sep w Rs W' := by
 obtain ⟨k, hk⟩ : ∃ k, k = min x.s.size 8 := ⟨_, rfl⟩
 have he : (if (8 : Int) < (x.s.size : Int) then (8 : Int) else (x.s.size : Int)) = (k : Int) := by rw [hk]; split <;> omega
 have he2 : min (x.s.size : Int) 8 = (k : Int) := by omega
 have hl : (k : Int) ≤ (x.s.size : Int) := by omega
 rw [← hk]
 have HK := Lib.hid hk
 have h4 : (x.kind == 4) = false := by simpa using hr
 clear hk hr
 obtain ⟨b, hb⟩ : ∃ gx_, (W.heap.size) = gx_ := ⟨_, rfl⟩
 replace S := ((S.alloc (.cells #[.int .i64 x.kind, .int .i64 x.n, .string x.s] 24)).alloc (.cells #[.int .i64 0, .int .i64 0, .string ⟨#[]⟩] 24))
 simp only [World.size_alloc, hb] at S
 obtain ⟨bA, hbs⟩ : ∃ l, l = Rs := ⟨_, rfl⟩
 have HBS := Lib.hid hbs
 replace S := enterP (w := w) (all := [boxZ (b + 1), boxV b x]) (E := [boxZ (b + 1), boxV b x]) (B := []) (Rs := Rs) S hbs (perm_of [0, 1] (by show (List.range' 0 2).Perm [0, 1]; decide) (by rfl))
 clear hbs
 replace S := Lib.hid S
 go_enter Tryz.func9, Tryz.ntmps9
 go_upto_region 1 with fail
 try simp only [World.size_alloc, hb]
 clear hb
 refine regionL (E := [boxZ (b + 1), boxV b x]) (base := bA) S.out ?_
 clear S
 refine quietL ?_
 simp only [pu]
 refine detL _ [boxZ (b + 1), boxV b x] (h1 := fun Wx hSw => by (have hz := hSw.box (b := b) (o := objV x) 1 rfl; have z0 := cellAt hz 0 (v := .int .i64 x.kind) rfl; have z1 := cellAt hz 1 (v := .int .i64 x.n) rfl; have z2 := cellAt hz 2 (v := .string x.s) rfl; go_simp; exact ⟨rfl, hSw⟩)) (h2 := ?_)
 simp only [pu]
 refine quietL ?_
 simp only [pu]
 refine detL _ [boxZ (b + 1), boxV b x] (h1 := fun Wx hSw => by (have hz := hSw.box (b := b) (o := objV x) 1 rfl; have z0 := cellAt hz 0 (v := .int .i64 x.kind) rfl; have z1 := cellAt hz 1 (v := .int .i64 x.n) rfl; have z2 := cellAt hz 2 (v := .string x.s) rfl; go_simp; exact ⟨rfl, hSw⟩)) (h2 := ?_)
 simp only [pu]
 iterate 4 (refine quietL ?_; simp only [pu])
 refine detL undef [boxZ (b + 1), boxW b x.kind x.n (x.s.extract 0 k)] (h1 := fun Wx hSw => by (have hz := hSw.box (b := b) (o := objV x) 1 rfl; have z0 := cellAt hz 2 (v := .string x.s) rfl; have y0 := frozenAt hz 2; go_simp; exact ⟨rfl, (Sep.setBox (cs := #[.int .i64 x.kind, .int .i64 x.n, .string x.s]) (t := 24) hSw 1 rfl 2 (.string (x.s.extract 0 k)))⟩)) (h2 := ?_)
 simp only [pu]
 intro w1 S
 replace S := Lib.hid S
 go_upto_region 2 with fail
 refine regionL (E := [boxZ (b + 1), boxW b x.kind x.n (x.s.extract 0 k)]) (base := bA) S.out ?_
 clear S
 refine quietL ?_
 simp only [pu]
 refine detL _ [boxZ (b + 1), boxW b x.kind x.n (x.s.extract 0 k)] (h1 := fun Wx hSw => by (have hz := hSw.box (b := b) (o := objW x.kind x.n (x.s.extract 0 k)) 1 rfl; have z0 := cellAt hz 0 (v := .int .i64 x.kind) rfl; have z1 := cellAt hz 1 (v := .int .i64 x.n) rfl; have z2 := cellAt hz 2 (v := .string (x.s.extract 0 k)) rfl; go_simp; exact ⟨rfl, hSw⟩)) (h2 := ?_)
 simp only [pu]
 refine quietL ?_
 simp only [pu]
 intro w2 S
 replace S := Lib.hid S
 go_upto_region 4 with fail
 refine regionL (E := [boxZ (b + 1), boxW b x.kind x.n (x.s.extract 0 k)]) (base := bA) S.out ?_
 clear S
 refine detL _ [boxZ (b + 1), boxW b x.kind x.n (x.s.extract 0 k)] (h1 := fun Wx hSw => by (have hz := hSw.box (b := b) (o := objW x.kind x.n (x.s.extract 0 k)) 1 rfl; have z0 := cellAt hz 0 (v := .int .i64 x.kind) rfl; have z1 := cellAt hz 1 (v := .int .i64 x.n) rfl; have z2 := cellAt hz 2 (v := .string (x.s.extract 0 k)) rfl; go_simp; exact ⟨rfl, hSw⟩)) (h2 := ?_)
 simp only [pu]
 refine detL undef [boxW (b + 1) x.kind x.n (x.s.extract 0 k), boxW b x.kind x.n (x.s.extract 0 k)] (h1 := fun Wx hSw => by (have hz := hSw.box (b := (b + 1)) (o := objZ) 0 rfl; refine useZ3 hz fun z0 z1 z2 y0 y1 y2 => ?_; go_simp; exact ⟨rfl, hSw.set3 0 rfl (.int .i64 x.kind) (.int .i64 x.n) (.string (x.s.extract 0 k))⟩)) (h2 := ?_)
 simp only [pu]
 intro w3 S
 refine useR3 (S.box (b := b + 1) (o := objW x.kind x.n (x.s.extract 0 k)) 0 rfl) fun r0 r1 r2 => ?_
 replace S := Lib.hid S
 repeat (first | go_values | go_skip | go_guarded | go_step)
 refine bodyPost_ret (v := .agg #[.int .i64 x.kind, .int .i64 x.n, .string (x.s.extract 0 k)]) ?_ ?_ ?_
 ·
  simp [results, Tryz.results9, go_sem, r0, r1, r2]
 ·
  rfl
 refine ⟨rfl, ?_⟩
 replace S := S.out
 rw [HBS.out] at S
 exact S.tail.tail
theorem plain_ref (S : Sep w Rs W) (x : V) (hr : x.kind = 4) : Calls Tryz.prog 9 #[.agg #[.int .i64 x.kind, .int .i64 x.n, .string x.s]] W fun e W' => e = .returned (.agg #[.int .i64 x.kind, .int .i64 (low15 x.n), .string (x.s.extract 0 (min x.s.size 8))]) ∧ Sep w Rs W' := by
 obtain ⟨k, hk⟩ : ∃ k, k = min x.s.size 8 := ⟨_, rfl⟩
 have he : (if (8 : Int) < (x.s.size : Int) then (8 : Int) else (x.s.size : Int)) = (k : Int) := by rw [hk]; split <;> omega
 have he2 : min (x.s.size : Int) 8 = (k : Int) := by omega
 have hl : (k : Int) ≤ (x.s.size : Int) := by omega
 rw [← hk]
 have HK := Lib.hid hk
 have h4 : (x.kind == 4) = true := by simp [hr]
 clear hk hr
 obtain ⟨m, hm⟩ : ∃ m, m = low15 x.n := ⟨_, rfl⟩
 rw [← hm]
 have hmb : bits .and .i64 x.n 15 = m := hm.symm
 clear hm
 obtain ⟨b, hb⟩ : ∃ gx_, (W.heap.size) = gx_ := ⟨_, rfl⟩
 replace S := ((S.alloc (.cells #[.int .i64 x.kind, .int .i64 x.n, .string x.s] 24)).alloc (.cells #[.int .i64 0, .int .i64 0, .string ⟨#[]⟩] 24))
 simp only [World.size_alloc, hb] at S
 obtain ⟨bA, hbs⟩ : ∃ l, l = Rs := ⟨_, rfl⟩
 have HBS := Lib.hid hbs
 replace S := enterP (w := w) (all := [boxZ (b + 1), boxV b x]) (E := [boxZ (b + 1), boxV b x]) (B := []) (Rs := Rs) S hbs (perm_of [0, 1] (by show (List.range' 0 2).Perm [0, 1]; decide) (by rfl))
 clear hbs
 replace S := Lib.hid S
 go_enter Tryz.func9, Tryz.ntmps9
 go_upto_region 1 with fail
 try simp only [World.size_alloc, hb]
 clear hb
 refine regionL (E := [boxZ (b + 1), boxV b x]) (base := bA) S.out ?_
 clear S
 refine quietL ?_
 simp only [pu]
 refine detL _ [boxZ (b + 1), boxV b x] (h1 := fun Wx hSw => by (have hz := hSw.box (b := b) (o := objV x) 1 rfl; have z0 := cellAt hz 0 (v := .int .i64 x.kind) rfl; have z1 := cellAt hz 1 (v := .int .i64 x.n) rfl; have z2 := cellAt hz 2 (v := .string x.s) rfl; go_simp; exact ⟨rfl, hSw⟩)) (h2 := ?_)
 simp only [pu]
 refine quietL ?_
 simp only [pu]
 refine detL _ [boxZ (b + 1), boxV b x] (h1 := fun Wx hSw => by (have hz := hSw.box (b := b) (o := objV x) 1 rfl; have z0 := cellAt hz 0 (v := .int .i64 x.kind) rfl; have z1 := cellAt hz 1 (v := .int .i64 x.n) rfl; have z2 := cellAt hz 2 (v := .string x.s) rfl; go_simp; exact ⟨rfl, hSw⟩)) (h2 := ?_)
 simp only [pu]
 iterate 4 (refine quietL ?_; simp only [pu])
 refine detL undef [boxZ (b + 1), boxW b x.kind x.n (x.s.extract 0 k)] (h1 := fun Wx hSw => by (have hz := hSw.box (b := b) (o := objV x) 1 rfl; have z0 := cellAt hz 2 (v := .string x.s) rfl; have y0 := frozenAt hz 2; go_simp; exact ⟨rfl, (Sep.setBox (cs := #[.int .i64 x.kind, .int .i64 x.n, .string x.s]) (t := 24) hSw 1 rfl 2 (.string (x.s.extract 0 k)))⟩)) (h2 := ?_)
 simp only [pu]
 intro w1 S
 replace S := Lib.hid S
 go_upto_region 2 with fail
 refine regionL (E := [boxZ (b + 1), boxW b x.kind x.n (x.s.extract 0 k)]) (base := bA) S.out ?_
 clear S
 refine quietL ?_
 simp only [pu]
 refine detL _ [boxZ (b + 1), boxW b x.kind x.n (x.s.extract 0 k)] (h1 := fun Wx hSw => by (have hz := hSw.box (b := b) (o := objW x.kind x.n (x.s.extract 0 k)) 1 rfl; have z0 := cellAt hz 0 (v := .int .i64 x.kind) rfl; have z1 := cellAt hz 1 (v := .int .i64 x.n) rfl; have z2 := cellAt hz 2 (v := .string (x.s.extract 0 k)) rfl; go_simp; exact ⟨rfl, hSw⟩)) (h2 := ?_)
 simp only [pu]
 refine quietL ?_
 simp only [pu]
 intro w2 S
 replace S := Lib.hid S
 go_upto_region 3 with fail
 refine regionL (E := [boxZ (b + 1), boxW b x.kind x.n (x.s.extract 0 k)]) (base := bA) S.out ?_
 clear S
 refine quietL ?_
 simp only [pu]
 refine detL _ [boxZ (b + 1), boxW b x.kind x.n (x.s.extract 0 k)] (h1 := fun Wx hSw => by (have hz := hSw.box (b := b) (o := objW x.kind x.n (x.s.extract 0 k)) 1 rfl; have z0 := cellAt hz 0 (v := .int .i64 x.kind) rfl; have z1 := cellAt hz 1 (v := .int .i64 x.n) rfl; have z2 := cellAt hz 2 (v := .string (x.s.extract 0 k)) rfl; go_simp; exact ⟨rfl, hSw⟩)) (h2 := ?_)
 simp only [pu]
 iterate 2 (refine quietL ?_; simp only [pu])
 refine detL undef [boxZ (b + 1), boxW b x.kind m (x.s.extract 0 k)] (h1 := fun Wx hSw => by (have hz := hSw.box (b := b) (o := objW x.kind x.n (x.s.extract 0 k)) 1 rfl; have z0 := cellAt hz 1 (v := .int .i64 x.n) rfl; have y0 := frozenAt hz 1; go_simp; exact ⟨rfl, (Sep.setBox (cs := #[.int .i64 x.kind, .int .i64 x.n, .string (x.s.extract 0 k)]) (t := 24) hSw 1 rfl 1 (.int .i64 m))⟩)) (h2 := ?_)
 simp only [pu]
 intro w3 S
 replace S := Lib.hid S
 go_upto_region 4 with fail
 refine regionL (E := [boxZ (b + 1), boxW b x.kind m (x.s.extract 0 k)]) (base := bA) S.out ?_
 clear S
 refine detL _ [boxZ (b + 1), boxW b x.kind m (x.s.extract 0 k)] (h1 := fun Wx hSw => by (have hz := hSw.box (b := b) (o := objW x.kind m (x.s.extract 0 k)) 1 rfl; have z0 := cellAt hz 0 (v := .int .i64 x.kind) rfl; have z1 := cellAt hz 1 (v := .int .i64 m) rfl; have z2 := cellAt hz 2 (v := .string (x.s.extract 0 k)) rfl; go_simp; exact ⟨rfl, hSw⟩)) (h2 := ?_)
 simp only [pu]
 refine detL undef [boxW (b + 1) x.kind m (x.s.extract 0 k), boxW b x.kind m (x.s.extract 0 k)] (h1 := fun Wx hSw => by (have hz := hSw.box (b := (b + 1)) (o := objZ) 0 rfl; refine useZ3 hz fun z0 z1 z2 y0 y1 y2 => ?_; go_simp; exact ⟨rfl, hSw.set3 0 rfl (.int .i64 x.kind) (.int .i64 m) (.string (x.s.extract 0 k))⟩)) (h2 := ?_)
 simp only [pu]
 intro w4 S
 refine useR3 (S.box (b := b + 1) (o := objW x.kind m (x.s.extract 0 k)) 0 rfl) fun r0 r1 r2 => ?_
 replace S := Lib.hid S
 repeat (first | go_values | go_skip | go_guarded | go_step)
 refine bodyPost_ret (v := .agg #[.int .i64 x.kind, .int .i64 m, .string (x.s.extract 0 k)]) ?_ ?_ ?_
 ·
  simp [results, Tryz.results9, go_sem, r0, r1, r2]
 ·
  rfl
 refine ⟨rfl, ?_⟩
 replace S := S.out
 rw [HBS.out] at S
 exact S.tail.tail
theorem lplain_ok (S : Sep w Rs W) (x : V) : Calls Tryz.prog 9 #[.agg #[.int .i64 x.kind, .int .i64 x.n, .string x.s]] W fun e W' => e = .returned (.agg #[.int .i64 (plainV x).kind, .int .i64 (plainV x).n, .string (plainV x).s]) ∧ Sep w Rs W' := by
 unfold plainV
 by_cases hr : x.kind = 4
 ·
  simp only [if_pos hr]; exact plain_ref S x hr
 ·
  simp only [if_neg hr]; exact plain_no S x hr
end
end Go.Proofs.YtijlebhoapdfnaaGreat
/- ch 16: the laws' rows. -/
namespace Go.Proofs.YtijlebhoapdfnaaGreat
set_option linter.unusedSimpArgs false
open Go.RowKit
set_option linter.unusedVariables false
section
variable {w W : World} {Rs : List Res} {h : Nat} {H : HeapM}
theorem seesOneV {W : World} {g : Nat} {x : V} {t : TypeId} (hb : W.heap[g]? = some (.cells #[.int .i64 x.kind, .int .i64 x.n, .string x.s] t)) : SeesR V.cells 3 W (.slice (some ⟨g, 0, none⟩) 1 1) [x] := by
 refine ⟨_, _, rfl, Nat.le_refl _, by unfold maxLen; simp, .inr ⟨g, 0, rfl, fun i v hv => ?_⟩⟩
 match i, hv with
 | 0, hv =>
  simp at hv; subst hv
  intro j u hu
  match j, hu with
  | 0, hu => simp [V.cells] at hu; subst hu; exact cellAt hb 0 rfl
  | 1, hu => simp [V.cells] at hu; subst hu; exact cellAt hb 1 rfl
  | 2, hu => simp [V.cells] at hu; subst hu; exact cellAt hb 2 rfl
  | j + 3, hu => simp [V.cells] at hu
 | i + 1, hv => simp at hv
end
end Go.Proofs.YtijlebhoapdfnaaGreat
