import Derived.Test.YtijlebhoapdfnaaGreatOprE
import Derived.Test.YtijlebhoapdfnaaGreatRegS
import Derived.Test.YtijlebhoapdfnaaGreatNumT
import Derived.Test.YtijlebhoapdfnaaGreatBase
import Derived.Lib.ConvBytes
import Derived.Shelf.Strings.Builder1
import Derived.Shelf.Strings.Builder2
import Derived.Shelf.Small.Bits
import Derived.Shelf.Small.Wraps
import Derived.Shelf.Strings.BuilderF
import Derived.Shelf.Strconv.Itoa0
import Derived.Shelf.Strings.Search1
import Derived.Shelf.Strings.Search2
import Derived.Shelf.Strings.Search3
import Derived.Shelf.LaysM
import Derived.Shelf.Strings.Shaped
import Derived.Shelf.Strings.Prefix
import Derived.Shelf.Bits.Mul64
import Derived.Shelf.Strings.Repeat
import Derived.Ground.Names2Prog
import Derived.Shelf.Slices.SearchI
import Derived.Test.YtijlebhoapdfnaaGreatProg
/-
 DERIVED: THE SHELF's CONTRACTS AT THIS DUMP, IN PLAIN WORDS (tools/lay-plain.mjs out of 'TryzShelf.lean', which tools/lay-shelf.mjs wrote): THE SAME DECLARATIONS UNDER THE SAME NAMES: 'import', 'namespace', 'open', 'def', 'theorem' AND NOTHING ELSE: no command of the shelf's: FOR A HAND-IN. Each laying: the table of numbers ('.._ren') and one theorem, a field a fact of the dump's own or the kernel's comparison; each contract: ONE APPLICATION.
-/
namespace Go.Proofs
open Go.Shelf
def Tryz.lays100_ren : Go.Shelf.Ren := ⟨fun | 100 => 199 | 207 => 227 | n => n, fun | 9 => 9 | 4 => 4 | 3 => 3 | n => n, fun | n => n⟩
theorem Tryz.lays100 : Go.Proofs.Lays.n100 Tryz.prog Tryz.lays100_ren := {
 mixed := by kernel_rfl
 f100 := Tryz.func199.trans (congrArg some (by kernel_rfl))
 f207 := Tryz.func227.trans (congrArg some (by kernel_rfl))
 t3 := Tryz.underlying3
 a3 := Tryz.isAgg3
 z3 := Tryz.sizeOf3
 v3 := Tryz.zeroValue3
 t4 := Tryz.underlying4
 a4 := Tryz.isAgg4
 z4 := Tryz.sizeOf4
 v4 := Tryz.zeroValue4
 t9 := Tryz.underlying9
 a9 := Tryz.isAgg9
 z9 := Tryz.sizeOf9
 v9 := Tryz.zeroValue9 }
open Go.RowKit Go.Lib in
/-- strings.HasSuffix: "HasSuffix reports whether the string s ends with suffix.": IT RETURNS 'Lib.hasSuffix s suffix'; the world is as it was. ('hs': no Go string is longer: a caller has it of every string that it was handed.) (LAID: no walk: one application.) -/
theorem Tryz.strings_HasSuffix (s p : ByteArray) (w : World) (hs : s.size ≤ 9223372036854775807) :
  Calls Tryz.prog 199 #[.string s, .string p] w fun e w' => e = .returned (.bool (Lib.hasSuffix s.data.toList p.data.toList)) ∧ w' = w := Any.strings_HasSuffix Tryz.lays100 s p w hs
end Go.Proofs
namespace Go.Proofs.YtijlebhoapdfnaaGreat
set_option linter.unusedSimpArgs false
open Go.RowKit
set_option linter.unusedVariables false
end Go.Proofs.YtijlebhoapdfnaaGreat
namespace Go.Proofs.YtijlebhoapdfnaaGreat
set_option linter.unusedSimpArgs false
open Go.RowKit
set_option linter.unusedVariables false
end Go.Proofs.YtijlebhoapdfnaaGreat
namespace Go.Proofs.YtijlebhoapdfnaaGreat
set_option linter.unusedSimpArgs false
open Go.RowKit
set_option linter.unusedVariables false
end Go.Proofs.YtijlebhoapdfnaaGreat
/- ch 16: add, of strs and rows. -/
namespace Go.Proofs.YtijlebhoapdfnaaGreat
set_option linter.unusedSimpArgs false
open Go.RowKit
set_option linter.unusedVariables false
section
variable {w W : World} {Rs : List Res} {h : Nat} {H : HeapM}
end
end Go.Proofs.YtijlebhoapdfnaaGreat
/- ch 16: the small ones: place, end, lost, str, num. -/
namespace Go.Proofs.YtijlebhoapdfnaaGreat
set_option linter.unusedSimpArgs false
open Go.RowKit
set_option linter.unusedVariables false
section
variable {w W : World} {Rs : List Res} {h : Nat} {H : HeapM}
end
end Go.Proofs.YtijlebhoapdfnaaGreat
/- ch 16: the laws' plain. -/
set_option maxRecDepth 100000
set_option maxHeartbeats 12800000
namespace Go.Proofs.YtijlebhoapdfnaaGreat
set_option linter.unusedSimpArgs false
open Go.RowKit
set_option linter.unusedVariables false
/-- n & 15, as the model has it. -/
def low15 (n : Int) : Int := bits .and .i64 n 15
theorem low15_in (x : Int) : 0 ≤ low15 x ∧ low15 x ≤ 15 := by
 have h : (BitVec.ofInt 64 x &&& BitVec.ofInt 64 15).toNat ≤ 15 := by
  rw [BitVec.toNat_and]; exact Nat.le_trans Nat.and_le_right (by decide)
 have e : low15 x = IntKind.wrap .i64 ((BitVec.ofInt 64 x &&& BitVec.ofInt 64 15).toNat : Int) := rfl
 have e2 : IntKind.wrap .i64 ((BitVec.ofInt 64 x &&& BitVec.ofInt 64 15).toNat : Int) = ((BitVec.ofInt 64 x &&& BitVec.ofInt 64 15).toNat : Int) := IntWalk.i64_in _ (by omega)
 rw [e, e2]
 omega
/-- A value whose text has eight bytes at most, and whose object is one of sixteen. -/
def plainV (v : V) : V := ⟨v.kind, if v.kind = 4 then low15 v.n else v.n, v.s.extract 0 (min v.s.size 8), v.hk, by
 split
 ·
  have := low15_in v.n; exact okI_of (by omega)
 ·
  exact v.hn, by have := v.hs; rw [ByteArray.size_extract]; omega⟩
section
variable {w W : World} {Rs : List Res} {h : Nat} {H : HeapM}
theorem plain_no (S : Sep w Rs W) (x : V) (hr : ¬ x.kind = 4) : Calls Tryz.prog 9 #[.agg #[.int .i64 x.kind, .int .i64 x.n, .string x.s]] W fun e W' => e = .returned (.agg #[.int .i64 x.kind, .int .i64 x.n, .string (x.s.extract 0 (min x.s.size 8))]) ∧ Sep w Rs W' := by
 obtain ⟨k, hk⟩ : ∃ k, k = min x.s.size 8 := ⟨_, rfl⟩
 have he : (if (8 : Int) < (x.s.size : Int) then (8 : Int) else (x.s.size : Int)) = (k : Int) := by rw [hk]; split <;> omega
 have he2 : min (x.s.size : Int) 8 = (k : Int) := by omega
 have hl : (k : Int) ≤ (x.s.size : Int) := by omega
 rw [← hk]
 have HK := Lib.hid hk
 have h4 : (x.kind == 4) = false := by simpa using hr
 clear hk hr
 obtain ⟨b, hb⟩ : ∃ gx_, (W.heap.size) = gx_ := ⟨_, rfl⟩
 replace S := ((S.alloc (.cells #[.int .i64 x.kind, .int .i64 x.n, .string x.s] 24)).alloc (.cells #[.int .i64 0, .int .i64 0, .string ⟨#[]⟩] 24))
 simp only [World.size_alloc, hb] at S
 obtain ⟨bA, hbs⟩ : ∃ l, l = Rs := ⟨_, rfl⟩
 have HBS := Lib.hid hbs
 replace S := enterP (w := w) (all := [boxZ (b + 1), boxV b x]) (E := [boxZ (b + 1), boxV b x]) (B := []) (Rs := Rs) S hbs (perm_of [0, 1] (by show (List.range' 0 2).Perm [0, 1]; decide) (by rfl))
 clear hbs
 replace S := Lib.hid S
 go_enter Tryz.func9, Tryz.ntmps9
 go_upto_region 1 with fail
 try simp only [World.size_alloc, hb]
 clear hb
 refine regionL (E := [boxZ (b + 1), boxV b x]) (base := bA) S.out ?_
 clear S
 refine quietL ?_
 simp only [pu]
 refine detL _ [boxZ (b + 1), boxV b x] (h1 := fun Wx hSw => by (have hz := hSw.box (b := b) (o := objV x) 1 rfl; have z0 := cellAt hz 0 (v := .int .i64 x.kind) rfl; have z1 := cellAt hz 1 (v := .int .i64 x.n) rfl; have z2 := cellAt hz 2 (v := .string x.s) rfl; go_simp; exact ⟨rfl, hSw⟩)) (h2 := ?_)
 simp only [pu]
 refine quietL ?_
 simp only [pu]
 refine detL _ [boxZ (b + 1), boxV b x] (h1 := fun Wx hSw => by (have hz := hSw.box (b := b) (o := objV x) 1 rfl; have z0 := cellAt hz 0 (v := .int .i64 x.kind) rfl; have z1 := cellAt hz 1 (v := .int .i64 x.n) rfl; have z2 := cellAt hz 2 (v := .string x.s) rfl; go_simp; exact ⟨rfl, hSw⟩)) (h2 := ?_)
 simp only [pu]
 iterate 4 (refine quietL ?_; simp only [pu])
 refine detL undef [boxZ (b + 1), boxW b x.kind x.n (x.s.extract 0 k)] (h1 := fun Wx hSw => by (have hz := hSw.box (b := b) (o := objV x) 1 rfl; have z0 := cellAt hz 2 (v := .string x.s) rfl; have y0 := frozenAt hz 2; go_simp; exact ⟨rfl, (Sep.setBox (cs := #[.int .i64 x.kind, .int .i64 x.n, .string x.s]) (t := 24) hSw 1 rfl 2 (.string (x.s.extract 0 k)))⟩)) (h2 := ?_)
 simp only [pu]
 intro w1 S
 replace S := Lib.hid S
 go_upto_region 2 with fail
 refine regionL (E := [boxZ (b + 1), boxW b x.kind x.n (x.s.extract 0 k)]) (base := bA) S.out ?_
 clear S
 refine quietL ?_
 simp only [pu]
 refine detL _ [boxZ (b + 1), boxW b x.kind x.n (x.s.extract 0 k)] (h1 := fun Wx hSw => by (have hz := hSw.box (b := b) (o := objW x.kind x.n (x.s.extract 0 k)) 1 rfl; have z0 := cellAt hz 0 (v := .int .i64 x.kind) rfl; have z1 := cellAt hz 1 (v := .int .i64 x.n) rfl; have z2 := cellAt hz 2 (v := .string (x.s.extract 0 k)) rfl; go_simp; exact ⟨rfl, hSw⟩)) (h2 := ?_)
 simp only [pu]
 refine quietL ?_
 simp only [pu]
 intro w2 S
 replace S := Lib.hid S
 go_upto_region 4 with fail
 refine regionL (E := [boxZ (b + 1), boxW b x.kind x.n (x.s.extract 0 k)]) (base := bA) S.out ?_
 clear S
 refine detL _ [boxZ (b + 1), boxW b x.kind x.n (x.s.extract 0 k)] (h1 := fun Wx hSw => by (have hz := hSw.box (b := b) (o := objW x.kind x.n (x.s.extract 0 k)) 1 rfl; have z0 := cellAt hz 0 (v := .int .i64 x.kind) rfl; have z1 := cellAt hz 1 (v := .int .i64 x.n) rfl; have z2 := cellAt hz 2 (v := .string (x.s.extract 0 k)) rfl; go_simp; exact ⟨rfl, hSw⟩)) (h2 := ?_)
 simp only [pu]
 refine detL undef [boxW (b + 1) x.kind x.n (x.s.extract 0 k), boxW b x.kind x.n (x.s.extract 0 k)] (h1 := fun Wx hSw => by (have hz := hSw.box (b := (b + 1)) (o := objZ) 0 rfl; refine useZ3 hz fun z0 z1 z2 y0 y1 y2 => ?_; go_simp; exact ⟨rfl, hSw.set3 0 rfl (.int .i64 x.kind) (.int .i64 x.n) (.string (x.s.extract 0 k))⟩)) (h2 := ?_)
 simp only [pu]
 intro w3 S
 refine useR3 (S.box (b := b + 1) (o := objW x.kind x.n (x.s.extract 0 k)) 0 rfl) fun r0 r1 r2 => ?_
 replace S := Lib.hid S
 repeat (first | go_values | go_skip | go_guarded | go_step)
 refine bodyPost_ret (v := .agg #[.int .i64 x.kind, .int .i64 x.n, .string (x.s.extract 0 k)]) ?_ ?_ ?_
 ·
  simp [results, Tryz.results9, go_sem, r0, r1, r2]
 ·
  rfl
 refine ⟨rfl, ?_⟩
 replace S := S.out
 rw [HBS.out] at S
 exact S.tail.tail
theorem plain_ref (S : Sep w Rs W) (x : V) (hr : x.kind = 4) : Calls Tryz.prog 9 #[.agg #[.int .i64 x.kind, .int .i64 x.n, .string x.s]] W fun e W' => e = .returned (.agg #[.int .i64 x.kind, .int .i64 (low15 x.n), .string (x.s.extract 0 (min x.s.size 8))]) ∧ Sep w Rs W' := by
 obtain ⟨k, hk⟩ : ∃ k, k = min x.s.size 8 := ⟨_, rfl⟩
 have he : (if (8 : Int) < (x.s.size : Int) then (8 : Int) else (x.s.size : Int)) = (k : Int) := by rw [hk]; split <;> omega
 have he2 : min (x.s.size : Int) 8 = (k : Int) := by omega
 have hl : (k : Int) ≤ (x.s.size : Int) := by omega
 rw [← hk]
 have HK := Lib.hid hk
 have h4 : (x.kind == 4) = true := by simp [hr]
 clear hk hr
 obtain ⟨m, hm⟩ : ∃ m, m = low15 x.n := ⟨_, rfl⟩
 rw [← hm]
 have hmb : bits .and .i64 x.n 15 = m := hm.symm
 clear hm
 obtain ⟨b, hb⟩ : ∃ gx_, (W.heap.size) = gx_ := ⟨_, rfl⟩
 replace S := ((S.alloc (.cells #[.int .i64 x.kind, .int .i64 x.n, .string x.s] 24)).alloc (.cells #[.int .i64 0, .int .i64 0, .string ⟨#[]⟩] 24))
 simp only [World.size_alloc, hb] at S
 obtain ⟨bA, hbs⟩ : ∃ l, l = Rs := ⟨_, rfl⟩
 have HBS := Lib.hid hbs
 replace S := enterP (w := w) (all := [boxZ (b + 1), boxV b x]) (E := [boxZ (b + 1), boxV b x]) (B := []) (Rs := Rs) S hbs (perm_of [0, 1] (by show (List.range' 0 2).Perm [0, 1]; decide) (by rfl))
 clear hbs
 replace S := Lib.hid S
 go_enter Tryz.func9, Tryz.ntmps9
 go_upto_region 1 with fail
 try simp only [World.size_alloc, hb]
 clear hb
 refine regionL (E := [boxZ (b + 1), boxV b x]) (base := bA) S.out ?_
 clear S
 refine quietL ?_
 simp only [pu]
 refine detL _ [boxZ (b + 1), boxV b x] (h1 := fun Wx hSw => by (have hz := hSw.box (b := b) (o := objV x) 1 rfl; have z0 := cellAt hz 0 (v := .int .i64 x.kind) rfl; have z1 := cellAt hz 1 (v := .int .i64 x.n) rfl; have z2 := cellAt hz 2 (v := .string x.s) rfl; go_simp; exact ⟨rfl, hSw⟩)) (h2 := ?_)
 simp only [pu]
 refine quietL ?_
 simp only [pu]
 refine detL _ [boxZ (b + 1), boxV b x] (h1 := fun Wx hSw => by (have hz := hSw.box (b := b) (o := objV x) 1 rfl; have z0 := cellAt hz 0 (v := .int .i64 x.kind) rfl; have z1 := cellAt hz 1 (v := .int .i64 x.n) rfl; have z2 := cellAt hz 2 (v := .string x.s) rfl; go_simp; exact ⟨rfl, hSw⟩)) (h2 := ?_)
 simp only [pu]
 iterate 4 (refine quietL ?_; simp only [pu])
 refine detL undef [boxZ (b + 1), boxW b x.kind x.n (x.s.extract 0 k)] (h1 := fun Wx hSw => by (have hz := hSw.box (b := b) (o := objV x) 1 rfl; have z0 := cellAt hz 2 (v := .string x.s) rfl; have y0 := frozenAt hz 2; go_simp; exact ⟨rfl, (Sep.setBox (cs := #[.int .i64 x.kind, .int .i64 x.n, .string x.s]) (t := 24) hSw 1 rfl 2 (.string (x.s.extract 0 k)))⟩)) (h2 := ?_)
 simp only [pu]
 intro w1 S
 replace S := Lib.hid S
 go_upto_region 2 with fail
 refine regionL (E := [boxZ (b + 1), boxW b x.kind x.n (x.s.extract 0 k)]) (base := bA) S.out ?_
 clear S
 refine quietL ?_
 simp only [pu]
 refine detL _ [boxZ (b + 1), boxW b x.kind x.n (x.s.extract 0 k)] (h1 := fun Wx hSw => by (have hz := hSw.box (b := b) (o := objW x.kind x.n (x.s.extract 0 k)) 1 rfl; have z0 := cellAt hz 0 (v := .int .i64 x.kind) rfl; have z1 := cellAt hz 1 (v := .int .i64 x.n) rfl; have z2 := cellAt hz 2 (v := .string (x.s.extract 0 k)) rfl; go_simp; exact ⟨rfl, hSw⟩)) (h2 := ?_)
 simp only [pu]
 refine quietL ?_
 simp only [pu]
 intro w2 S
 replace S := Lib.hid S
 go_upto_region 3 with fail
 refine regionL (E := [boxZ (b + 1), boxW b x.kind x.n (x.s.extract 0 k)]) (base := bA) S.out ?_
 clear S
 refine quietL ?_
 simp only [pu]
 refine detL _ [boxZ (b + 1), boxW b x.kind x.n (x.s.extract 0 k)] (h1 := fun Wx hSw => by (have hz := hSw.box (b := b) (o := objW x.kind x.n (x.s.extract 0 k)) 1 rfl; have z0 := cellAt hz 0 (v := .int .i64 x.kind) rfl; have z1 := cellAt hz 1 (v := .int .i64 x.n) rfl; have z2 := cellAt hz 2 (v := .string (x.s.extract 0 k)) rfl; go_simp; exact ⟨rfl, hSw⟩)) (h2 := ?_)
 simp only [pu]
 iterate 2 (refine quietL ?_; simp only [pu])
 refine detL undef [boxZ (b + 1), boxW b x.kind m (x.s.extract 0 k)] (h1 := fun Wx hSw => by (have hz := hSw.box (b := b) (o := objW x.kind x.n (x.s.extract 0 k)) 1 rfl; have z0 := cellAt hz 1 (v := .int .i64 x.n) rfl; have y0 := frozenAt hz 1; go_simp; exact ⟨rfl, (Sep.setBox (cs := #[.int .i64 x.kind, .int .i64 x.n, .string (x.s.extract 0 k)]) (t := 24) hSw 1 rfl 1 (.int .i64 m))⟩)) (h2 := ?_)
 simp only [pu]
 intro w3 S
 replace S := Lib.hid S
 go_upto_region 4 with fail
 refine regionL (E := [boxZ (b + 1), boxW b x.kind m (x.s.extract 0 k)]) (base := bA) S.out ?_
 clear S
 refine detL _ [boxZ (b + 1), boxW b x.kind m (x.s.extract 0 k)] (h1 := fun Wx hSw => by (have hz := hSw.box (b := b) (o := objW x.kind m (x.s.extract 0 k)) 1 rfl; have z0 := cellAt hz 0 (v := .int .i64 x.kind) rfl; have z1 := cellAt hz 1 (v := .int .i64 m) rfl; have z2 := cellAt hz 2 (v := .string (x.s.extract 0 k)) rfl; go_simp; exact ⟨rfl, hSw⟩)) (h2 := ?_)
 simp only [pu]
 refine detL undef [boxW (b + 1) x.kind m (x.s.extract 0 k), boxW b x.kind m (x.s.extract 0 k)] (h1 := fun Wx hSw => by (have hz := hSw.box (b := (b + 1)) (o := objZ) 0 rfl; refine useZ3 hz fun z0 z1 z2 y0 y1 y2 => ?_; go_simp; exact ⟨rfl, hSw.set3 0 rfl (.int .i64 x.kind) (.int .i64 m) (.string (x.s.extract 0 k))⟩)) (h2 := ?_)
 simp only [pu]
 intro w4 S
 refine useR3 (S.box (b := b + 1) (o := objW x.kind m (x.s.extract 0 k)) 0 rfl) fun r0 r1 r2 => ?_
 replace S := Lib.hid S
 repeat (first | go_values | go_skip | go_guarded | go_step)
 refine bodyPost_ret (v := .agg #[.int .i64 x.kind, .int .i64 m, .string (x.s.extract 0 k)]) ?_ ?_ ?_
 ·
  simp [results, Tryz.results9, go_sem, r0, r1, r2]
 ·
  rfl
 refine ⟨rfl, ?_⟩
 replace S := S.out
 rw [HBS.out] at S
 exact S.tail.tail
theorem lplain_ok (S : Sep w Rs W) (x : V) : Calls Tryz.prog 9 #[.agg #[.int .i64 x.kind, .int .i64 x.n, .string x.s]] W fun e W' => e = .returned (.agg #[.int .i64 (plainV x).kind, .int .i64 (plainV x).n, .string (plainV x).s]) ∧ Sep w Rs W' := by
 unfold plainV
 by_cases hr : x.kind = 4
 ·
  simp only [if_pos hr]; exact plain_ref S x hr
 ·
  simp only [if_neg hr]; exact plain_no S x hr
end
end Go.Proofs.YtijlebhoapdfnaaGreat
/- ch 16: the laws' rows. -/
namespace Go.Proofs.YtijlebhoapdfnaaGreat
set_option linter.unusedSimpArgs false
open Go.RowKit
set_option linter.unusedVariables false
section
variable {w W : World} {Rs : List Res} {h : Nat} {H : HeapM}
theorem seesOneV {W : World} {g : Nat} {x : V} {t : TypeId} (hb : W.heap[g]? = some (.cells #[.int .i64 x.kind, .int .i64 x.n, .string x.s] t)) : SeesR V.cells 3 W (.slice (some ⟨g, 0, none⟩) 1 1) [x] := by
 refine ⟨_, _, rfl, Nat.le_refl _, by unfold maxLen; simp, .inr ⟨g, 0, rfl, fun i v hv => ?_⟩⟩
 match i, hv with
 | 0, hv =>
  simp at hv; subst hv
  intro j u hu
  match j, hu with
  | 0, hu => simp [V.cells] at hu; subst hu; exact cellAt hb 0 rfl
  | 1, hu => simp [V.cells] at hu; subst hu; exact cellAt hb 1 rfl
  | 2, hu => simp [V.cells] at hu; subst hu; exact cellAt hb 2 rfl
  | j + 3, hu => simp [V.cells] at hu
 | i + 1, hv => simp at hv
end
end Go.Proofs.YtijlebhoapdfnaaGreat
