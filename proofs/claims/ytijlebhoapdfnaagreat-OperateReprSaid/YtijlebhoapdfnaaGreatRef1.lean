import Derived.Test.YtijlebhoapdfnaaGreatSep
import Derived.Test.YtijlebhoapdfnaaGreatCore
/- The reference's heap (kraitref12): how it lies; Of. -/
set_option maxRecDepth 100000
set_option maxHeartbeats 1600000
namespace Go.Proofs.YtijlebhoapdfnaaGreat
set_option linter.unusedSimpArgs false
open Go.RowKit
set_option linter.unusedVariables false
/-- An object of the reference: its number, its block, its slices. -/
structure RRow where
 n : Int
 b : Nat
 o : ObjM
 iv : Value
 dv : Value
def pairCells (p : V × V) : List Value := p.1.cells ++ p.2.cells
def RRow.obj (p : RRow) : Obj := .cells #[.int .i64 p.n, .int .i64 p.o.kind, .string p.o.name, .int .i64 p.o.num, p.iv, p.dv] 101
def RRow.ptr (p : RRow) : List Value := [.pointer (some ⟨p.b, 0, none⟩)]
def RRow.blocks (p : RRow) : List Nat := p.b :: (p.iv.ownBlock.toList ++ p.dv.ownBlock.toList)
def RRow.At (w : World) (p : RRow) : Prop := w.heap[p.b]? = some p.obj ∧ slIs w 24 3 V.cells p.iv p.o.items ∧ slIs w 180 6 pairCells p.dv p.o.pairs
/-- At r lies the reference's heap H; its blocks are F. -/
def RefIs (w : World) (r : Nat) (H : HeapM) (F : List Nat) : Prop :=
 ∃ (rows : List RRow) (sv : Value), w.heap[r]? = some (.cells #[sv, .int .i64 H.last] 59) ∧ slIs w 102 1 RRow.ptr sv rows ∧ (∀ p ∈ rows, p.At w) ∧ H.objs = rows.map (fun p => (p.n, p.o)) ∧ F = r :: (sv.ownBlock.toList ++ rows.flatMap RRow.blocks) ∧ F.Nodup
def ofR (rows : List RRow) (v : V) : Option RRow := if v.kind = 4 then rows.find? (fun p => decide (p.n = v.n)) else none
theorem ofR_of {H : HeapM} {rows : List RRow} (h : H.objs = rows.map (fun p => (p.n, p.o))) (v : V) : H.of v = (ofR rows v).map (·.o) := by
 unfold HeapM.of ofR
 split
 ·
  rw [h, getL, List.find?_map, Option.map_map]; rfl
 ·
  rfl
theorem find_at {α : Type} {l : List α} {f : α → Bool} {k : Nat} {p : α} (h : l[k]? = some p) (hp : f p = true) (hno : ∀ x ∈ l.take k, f x = false) : l.find? f = some p := by
 obtain ⟨hk, rfl⟩ := List.getElem?_eq_some_iff.1 h
 refine List.find?_eq_some_iff_append.2 ⟨hp, l.take k, l.drop (k + 1), ?_, fun x hx => by simp [hno x hx]⟩
 conv => lhs; rw [← List.take_append_drop k l, List.drop_eq_getElem_cons hk]
theorem ref_of (w : World) (r : Nat) (rows : List RRow) (sv : Value) (last : Int) (v : V) (h1 : w.heap[r]? = some (.cells #[sv, .int .i64 last] 59)) (h2 : slIs w 102 1 RRow.ptr sv rows) (h3 : ∀ p ∈ rows, p.At w) :
  Calls Tryz.prog 128 #[.pointer (some ⟨r, 0, none⟩), v.val] w fun e w' => e = .returned (.pointer ((ofR rows v).map fun p => ⟨p.b, 0, none⟩)) ∧ Below w.heap.size w w' := by
 obtain ⟨sa, sc, rfl⟩ := h2.form
 simp only [V.val]
 by_cases hk : v.kind = 4
 ·
  have hlen : (rows.length : Int) ≤ 9223372036854775807 := by have := h2.caps; unfold maxLen at this; omega
  have HS := Lib.hid h2
  have HR := Lib.hid h3
  have c0 := cellAt h1 0 (v := .slice sa rows.length sc) rfl
  have hrl := blockLt h1
  clear h1 h2 h3
  obtain ⟨vk, vn, vs, _, _, _⟩ := v
  simp only at hk
  subst hk
  go_enter Tryz.func128, Tryz.ntmps128
  go_wp2
  go_loopw [5] (fun i wr => ∃ k : Nat, k ≤ rows.length ∧ i = .int .i64 k ∧ (∀ p ∈ rows.take k, p.n ≠ vn) ∧ Below w.heap.size w wr ∧ wr.heap[w.heap.size]? = some (.cells #[.int .i64 4, .int .i64 vn, .string vs] 24)) (fun i _ => rows.length - (intOf i).toNat)
  case atStart => exact ⟨0, by omega, rfl, by simp, belowAlloc _ _, heapAllocNew _ _⟩
  case round =>
   obtain ⟨k, hk, rfl, hno, hB, hbox⟩ := hrel
   have d0 := cellBelow c0 hB
   have hwl := hB.size
   by_cases hlt : k < rows.length
   ·
    obtain ⟨p, hp⟩ : ∃ p, rows[k]? = some p := ⟨rows[k], by simp [hlt]⟩
    obtain ⟨g, rfl⟩ : ∃ g, sa = some ⟨g, 0, none⟩ := by
     rcases HS.out.shape with ⟨h1, h2⟩ | ⟨g, cap, h1, _⟩
     ·
      subst h2; simp at hp
     ·
      exact ⟨g, (Value.slice.inj h1).1⟩
    have e0 : w.cell? ⟨g, k, none⟩ = some (.pointer (some ⟨p.b, 0, none⟩)) := by
     have := slIs.cell (f := RRow.ptr) (m := 1) (fun _ => rfl) HS.out (g := g) rfl hp (j := 0) (show (RRow.ptr p)[0]? = some (.pointer (some ⟨p.b, 0, none⟩)) from rfl)
     simpa using this
    have e1 := cellBelow e0 hB
    have hat := HR.out p (List.mem_of_getElem? hp)
    have f0 := cellBelow (cellAt hat.1 0 (v := .int .i64 p.n) rfl) hB
    obtain ⟨x0, x1, x2, -⟩ := valBlk hbox
    have hil : (k : Int) < rows.length := by omega
    have HP := Lib.hid (And.intro hp hno)
    have HB := Lib.hid (And.intro hB hbox)
    have HL := Lib.hid hlt
    by_cases hn : p.n = vn
    ·
     have HF : Hid (∀ a b c, ofR rows ⟨4, vn, vs, a, b, c⟩ = some p) := Lib.hid fun a b c => by
      unfold ofR
      rw [if_pos rfl]
      exact find_at hp (by simpa using hn) (fun x hx => by simpa using hno x hx)
     clear hp hno hB hbox e0 hat hlt
     go_wp2
     go_region
     go_wp2
     go_ret
     rw [HF.out]
     exact ⟨rfl, Below.drew HB.out.1⟩
    ·
     clear hp hno hB hbox e0 hat hlt
     go_wp2
     go_region
     go_wp2
     refine ⟨⟨k + 1, by have := HL.out; omega, by go_num, ?_, Below.drew HB.out.1, HB.out.2⟩, by have := HL.out; simp [intOf]; omega⟩
     rw [List.take_add_one, HP.out.1]
     intro q hq
     rcases List.mem_append.1 hq with h | h
     ·
      exact HP.out.2 q h
     ·
      simp at h; subst h; exact hn
   ·
    obtain rfl : k = rows.length := by omega
    have HF : Hid (∀ a b c, ofR rows ⟨4, vn, vs, a, b, c⟩ = none) := Lib.hid fun a b c => by
     rw [List.take_length] at hno
     unfold ofR
     rw [if_pos rfl, List.find?_eq_none]
     intro x hx; simpa using hno x hx
    have HB := Lib.hid hB
    clear hno hB hbox hlt
    go_wp2
    go_ret
    rw [HF.out]
    exact ⟨rfl, HB.out⟩
 ·
  have HF := Lib.hid (show ofR rows v = none by unfold ofR; rw [if_neg hk])
  rw [HF.out]
  clear h1 h2 h3
  go_enter Tryz.func128, Tryz.ntmps128
  go_wp2
  go_ret
  exact ⟨rfl, by exact belowA⟩
end Go.Proofs.YtijlebhoapdfnaaGreat
/- The reference's heap: what it tells of an object. -/
namespace Go.Proofs.YtijlebhoapdfnaaGreat
set_option linter.unusedSimpArgs false
open Go.RowKit
set_option linter.unusedVariables false
theorem RRow.At.below {w W : World} {p : RRow} (h : p.At w) (hb : Below w.heap.size w W) : p.At W := ⟨blockBelow h.1 hb, h.2.1.of_block fun g hg => hb.block g (h.2.1.lt g hg), h.2.2.of_block fun g hg => hb.block g (h.2.2.lt g hg)⟩
theorem ref_of_at {w : World} {r : Nat} {rows : List RRow} {sv : Value} {last : Int} (h1 : w.heap[r]? = some (.cells #[sv, .int .i64 last] 59)) (h2 : slIs w 102 1 RRow.ptr sv rows) (h3 : ∀ p ∈ rows, p.At w) (v : V) (W : World) (hb : Below w.heap.size w W) :
  Calls Tryz.prog 128 #[.pointer (some ⟨r, 0, none⟩), v.val] W fun e w' => e = .returned (.pointer ((ofR rows v).map fun p => ⟨p.b, 0, none⟩)) ∧ Below W.heap.size W w' :=
 ref_of W r rows sv last v (blockBelow h1 hb) (h2.of_block fun g hg => hb.block g (h2.lt g hg)) (fun p hp => (h3 p hp).below hb)
theorem ofR_mem {rows : List RRow} {v : V} {p : RRow} (h : ofR rows v = some p) : p ∈ rows ∧ v.kind = 4 ∧ p.n = v.n := by
 unfold ofR at h
 split at h
 ·
  rename_i hk
  have := List.find?_some h
  exact ⟨List.mem_of_find?_eq_some h, hk, by simpa using this⟩
 ·
  cases h
theorem ref_kind (w : World) (r : Nat) (v : V) {H : HeapM} {F : List Nat} (R : RefIs w r H F) :
  Calls Tryz.prog 60 #[.pointer (some ⟨r, 0, none⟩), v.val] w fun e w' => e = .returned (.int .i64 (H.kind v)) ∧ Below w.heap.size w w' := by
 obtain ⟨rows, sv, h1, h2, h3, h4, -⟩ := R
 have HO := Lib.hid (ref_of_at h1 h2 h3 v)
 have he := ofR_of h4 v
 cases hf : ofR rows v with
 | none =>
  have HE := Lib.hid (show (.int .i64 (H.kind v) : Value) = .int .i64 0 by rw [HeapM.kind, he, hf]; rfl)
  rw [hf] at HO
  rw [HE.out]
  clear h1 h2 h3 h4 he hf HE
  simp only [V.val] at *
  go_enter Tryz.func60, Tryz.ntmps60
  go_wp2_with fail
  refine (HO.out _ belowA).mono ?_
  rintro e w1 ⟨rfl, hb1⟩
  go_wp2
  go_ret
  exact ⟨rfl, by exact Below.next belowA hb1 (by (try simp only [World.size_alloc, size_drew, size_drewN, size_setCell]); omega)⟩
 | some p =>
  have HE := Lib.hid (show H.kind v = p.o.kind by rw [HeapM.kind, he, hf]; rfl)
  have c := cellAt (h3 p (ofR_mem hf).1).1 1 (v := .int .i64 p.o.kind) rfl
  have HC := Lib.hid (fun w1 (hb : Below w.heap.size w w1) => cellBelow c hb)
  rw [hf] at HO
  rw [HE.out]
  clear h1 h2 h3 h4 he hf HE c
  simp only [V.val] at *
  go_enter Tryz.func60, Tryz.ntmps60
  go_wp2_with fail
  refine (HO.out _ belowA).mono ?_
  rintro e w1 ⟨rfl, hb1⟩
  have hB : Below w.heap.size w w1 := by exact Below.next belowA hb1 (by (try simp only [World.size_alloc, size_drew, size_drewN, size_setCell]); omega)
  have k := HC.out w1 hB
  go_wp2
  go_ret
  exact ⟨rfl, by exact belowA⟩
theorem ref_name (w : World) (r : Nat) (v : V) {H : HeapM} {F : List Nat} (R : RefIs w r H F) :
  Calls Tryz.prog 74 #[.pointer (some ⟨r, 0, none⟩), v.val] w fun e w' => e = .returned (.string (H.name v)) ∧ Below w.heap.size w w' := by
 obtain ⟨rows, sv, h1, h2, h3, h4, -⟩ := R
 have HO := Lib.hid (ref_of_at h1 h2 h3 v)
 have he := ofR_of h4 v
 cases hf : ofR rows v with
 | none =>
  have HE := Lib.hid (show (.string (H.name v) : Value) = .string ⟨#[]⟩ by rw [HeapM.name, he, hf]; rfl)
  rw [hf] at HO
  rw [HE.out]
  clear h1 h2 h3 h4 he hf HE
  simp only [V.val] at *
  go_enter Tryz.func74, Tryz.ntmps74
  go_wp2_with fail
  refine (HO.out _ belowA).mono ?_
  rintro e w1 ⟨rfl, hb1⟩
  go_wp2
  go_ret
  exact ⟨rfl, by exact Below.next belowA hb1 (by (try simp only [World.size_alloc, size_drew, size_drewN, size_setCell]); omega)⟩
 | some p =>
  have HE := Lib.hid (show H.name v = p.o.name by rw [HeapM.name, he, hf]; rfl)
  have c := cellAt (h3 p (ofR_mem hf).1).1 2 (v := .string p.o.name) rfl
  have HC := Lib.hid (fun w1 (hb : Below w.heap.size w w1) => cellBelow c hb)
  rw [hf] at HO
  rw [HE.out]
  clear h1 h2 h3 h4 he hf HE c
  simp only [V.val] at *
  go_enter Tryz.func74, Tryz.ntmps74
  go_wp2_with fail
  refine (HO.out _ belowA).mono ?_
  rintro e w1 ⟨rfl, hb1⟩
  have hB : Below w.heap.size w w1 := by exact Below.next belowA hb1 (by (try simp only [World.size_alloc, size_drew, size_drewN, size_setCell]); omega)
  have k := HC.out w1 hB
  go_wp2
  go_ret
  exact ⟨rfl, by exact belowA⟩
theorem ref_num (w : World) (r : Nat) (v : V) {H : HeapM} {F : List Nat} (R : RefIs w r H F) :
  Calls Tryz.prog 76 #[.pointer (some ⟨r, 0, none⟩), v.val] w fun e w' => e = .returned (.int .i64 (H.num v)) ∧ Below w.heap.size w w' := by
 obtain ⟨rows, sv, h1, h2, h3, h4, -⟩ := R
 have HO := Lib.hid (ref_of_at h1 h2 h3 v)
 have he := ofR_of h4 v
 cases hf : ofR rows v with
 | none =>
  have HE := Lib.hid (show (.int .i64 (H.num v) : Value) = .int .i64 0 by rw [HeapM.num, he, hf]; rfl)
  rw [hf] at HO
  rw [HE.out]
  clear h1 h2 h3 h4 he hf HE
  simp only [V.val] at *
  go_enter Tryz.func76, Tryz.ntmps76
  go_wp2_with fail
  refine (HO.out _ belowA).mono ?_
  rintro e w1 ⟨rfl, hb1⟩
  go_wp2
  go_ret
  exact ⟨rfl, by exact Below.next belowA hb1 (by (try simp only [World.size_alloc, size_drew, size_drewN, size_setCell]); omega)⟩
 | some p =>
  have HE := Lib.hid (show H.num v = p.o.num by rw [HeapM.num, he, hf]; rfl)
  have c := cellAt (h3 p (ofR_mem hf).1).1 3 (v := .int .i64 p.o.num) rfl
  have HC := Lib.hid (fun w1 (hb : Below w.heap.size w w1) => cellBelow c hb)
  rw [hf] at HO
  rw [HE.out]
  clear h1 h2 h3 h4 he hf HE c
  simp only [V.val] at *
  go_enter Tryz.func76, Tryz.ntmps76
  go_wp2_with fail
  refine (HO.out _ belowA).mono ?_
  rintro e w1 ⟨rfl, hb1⟩
  have hB : Below w.heap.size w w1 := by exact Below.next belowA hb1 (by (try simp only [World.size_alloc, size_drew, size_drewN, size_setCell]); omega)
  have k := HC.out w1 hB
  go_wp2
  go_ret
  exact ⟨rfl, by exact belowA⟩
end Go.Proofs.YtijlebhoapdfnaaGreat
/- The reference's heap: Items, At. -/
namespace Go.Proofs.YtijlebhoapdfnaaGreat
set_option linter.unusedSimpArgs false
open Go.RowKit
set_option linter.unusedVariables false
/-- A row of values of one's own, in a world that is as `w` was below. -/
def RowV (w : World) (W : World) (v : Value) (xs : List V) : Prop := slIs W 24 3 V.cells v xs ∧ (∀ g, v.ownBlock = some g → w.heap.size ≤ g) ∧ Below w.heap.size w W
theorem RowV.later {w W W' : World} {v : Value} {xs : List V} (h : RowV w W v xs) (hb : Below W.heap.size W W') : RowV w W' v xs := ⟨h.1.of_block fun g hg => hb.block g (h.1.lt g hg), h.2.1, Below.next h.2.2 hb h.2.2.size⟩
theorem RowV.pushed {w W W' : World} {v v' : Value} {xs xs' : List V} (h : RowV w W v xs) (h' : slIs W' 24 3 V.cells v' xs') (hg : W.grownBy W' v.ownBlock) (hat : v'.ownBlock = v.ownBlock ∨ v'.ownBlock = some W.heap.size) : RowV w W' v' xs' := by
 obtain ⟨h1, h2, h3⟩ := h
 refine ⟨h', fun g hg' => ?_, Outside.below_of h3 (Outside.of_grown hg) (fun b hb => h2 b (by simpa using hb)) h3.size⟩
 rcases hat with e | e
 ·
  exact h2 g (by rw [← e]; exact hg')
 ·
  rw [e] at hg'; have := Option.some.inj hg'; have := h3.size; omega
theorem RowV.made {w W : World} (h : Below w.heap.size w W) : RowV w (W.alloc (.cells #[] 24)) (.slice (some ⟨W.heap.size, 0, none⟩) 0 0) [] := by
 have h0 : (W.alloc (.cells #[] 24)).ownsRow 0 24 3 (.slice (some ⟨W.heap.size, 0, none⟩) 0 0) 0 [] := World.ownsRow_made W #[] 0 (Nat.zero_le _) (Nat.zero_le _) rfl
 have := h.size
 exact ⟨h0, fun b e => by simp [Value.ownBlock] at e; omega, h.alloc h.size _⟩
theorem ref_items (w : World) (r : Nat) (v : V) {H : HeapM} {F : List Nat} (R : RefIs w r H F) (hlen : (H.items v).length ≤ 4194304) :
  Calls Tryz.prog 61 #[.pointer (some ⟨r, 0, none⟩), v.val] w fun e w' => ∃ sv, e = .returned sv ∧ RowV w w' sv (H.items v) := by
 obtain ⟨rows, sv, h1, h2, h3, h4, -⟩ := R
 have HO := Lib.hid (ref_of_at h1 h2 h3 v)
 have he := ofR_of h4 v
 cases hf : ofR rows v with
 | none =>
  have HE := Lib.hid (show H.items v = [] by rw [HeapM.items, he, hf]; rfl)
  rw [hf] at HO
  rw [HE.out]
  clear h1 h2 h3 h4 he hf HE hlen
  simp only [V.val] at *
  go_enter Tryz.func61, Tryz.ntmps61
  go_wp2_with fail
  refine (HO.out _ belowA).mono ?_
  rintro e w1 ⟨rfl, hb1⟩
  go_wp2
  go_ret
  exact ⟨_, rfl, World.ownsRow_nil _ _ _ _, by simp [Value.ownBlock], by exact Below.next belowA hb1 (by (try simp only [World.size_alloc, size_drew, size_drewN, size_setCell]); omega)⟩
 | some p =>
  have hp := (ofR_mem hf).1
  have HE := Lib.hid (show H.items v = p.o.items by rw [HeapM.items, he, hf]; rfl)
  rw [HE.out] at hlen ⊢
  have HA := Lib.hid (fun w1 (hb : Below w.heap.size w w1) => (h3 p hp).below hb)
  obtain ⟨ia, ic, hiv⟩ := (h3 p hp).2.1.form
  rw [hf] at HO
  have HV := Lib.hid hiv
  have HLN := Lib.hid hlen
  clear h1 h2 h3 h4 he hf HE hp hlen hiv
  simp only [V.val] at *
  go_enter Tryz.func61, Tryz.ntmps61
  go_wp2_with fail
  refine (HO.out _ belowA).mono ?_
  rintro e w1 ⟨rfl, hb1⟩
  have hB : Below w.heap.size w w1 := by exact Below.next belowA hb1 (by (try simp only [World.size_alloc, size_drew, size_drewN, size_setCell]); omega)
  have at1 := HA.out w1 hB
  have c := cellAt at1.1 4 (v := .slice ia p.o.items.length ic) (by rw [← HV.out]; rfl)
  have R0 := Lib.hid (RowV.made hB)
  have S1 := Lib.hid at1.2.1.sees'
  rw [HV.out] at S1
  have hbl := blockLt at1.1
  clear at1
  go_wp2_with (at_builtin; refine wpList_append_sees rfl _ _ rfl _ _ rfl R0.out.1 _ _ rfl (S1.out.keep fun q u hq => cellAlloc hq _) (by have := HLN.out; simp; omega) ?_)
  intro va vc w2 g1 g2 g3
  have R2 := Lib.hid (R0.out.pushed g1 g2 (by rw [World.size_alloc]; exact g3))
  clear g1 g2 g3 c
  go_wp2
  go_ret
  exact ⟨_, rfl, R2.out⟩
end Go.Proofs.YtijlebhoapdfnaaGreat
/- The reference's heap: At. -/
namespace Go.Proofs.YtijlebhoapdfnaaGreat
set_option linter.unusedSimpArgs false
open Go.RowKit
set_option linter.unusedVariables false
end Go.Proofs.YtijlebhoapdfnaaGreat
/- The reference's dict (kraitref10): at. -/
namespace Go.Proofs.YtijlebhoapdfnaaGreat
set_option linter.unusedSimpArgs false
open Go.RowKit
set_option linter.unusedVariables false
theorem eql_vals (W : World) (x y : V) (b : Bool) (hb : decide (x = y) = b) : (binOp .eql 24 (.agg #[.int .i64 x.kind, .int .i64 x.n, .string x.s]) (.agg #[.int .i64 y.kind, .int .i64 y.n, .string y.s])).run Tryz.prog W = .ok (.bool b) W := by
 go_simp
 have hx := V.eq_iff x y
 subst hb
 by_cases h1 : x.kind = y.kind
 ·
  by_cases h2 : x.n = y.n
  ·
   by_cases h3 : x.s.toList = y.s.toList
   ·
    simp [h1, h2, h3, hx]
   ·
    simp [h1, h2, h3, hx]
  ·
   simp [h1, h2, hx]
 ·
  simp [h1, hx]
/-- Where a key stands. -/
def keyAt (L : List (V × V)) (k : V) : Int := match L.findIdx? (fun p => decide (p.1 = k)) with | some i => i | none => -1
theorem pairCells_len (p : V × V) : (pairCells p).length = 6 := rfl
theorem rdict_at (w : World) (b o : Nat) (k : V) (dv : Value) (L : List (V × V)) (c0 : w.cell? ⟨b, o, none⟩ = some dv) (h2 : slIs w 180 6 pairCells dv L) :
  Calls Tryz.prog 174 #[.pointer (some ⟨b, o, none⟩), k.val] w fun e w' => e = .returned (.int .i64 (keyAt L k)) ∧ Below w.heap.size w w' := by
 obtain ⟨sa, sc, rfl⟩ := h2.form
 have hlen : (L.length : Int) ≤ 9223372036854775807 := by have := h2.caps; unfold maxLen at this; omega
 have HS := Lib.hid h2
 have hrl := World.block_lt_of_cell? w _ c0
 clear h2
 simp only [V.val]
 go_enter Tryz.func174, Tryz.ntmps174
 go_wp2
 go_loopw [5] (fun i wr => ∃ n : Nat, n ≤ L.length ∧ i = .int .i64 n ∧ (∀ p ∈ L.take n, p.1 ≠ k) ∧ Below w.heap.size w wr ∧ wr.heap[w.heap.size]? = some (.cells #[.int .i64 k.kind, .int .i64 k.n, .string k.s] 24)) (fun i _ => L.length - (intOf i).toNat)
 case atStart => exact ⟨0, by omega, rfl, by simp, belowAlloc _ _, heapAllocNew _ _⟩
 case round =>
  obtain ⟨n, hn, rfl, hno, hB, hbox⟩ := hrel
  have d0 := cellBelow c0 hB
  have hwl := hB.size
  by_cases hlt : n < L.length
  ·
   obtain ⟨p, hp⟩ : ∃ p, L[n]? = some p := ⟨L[n], by simp [hlt]⟩
   obtain ⟨g, rfl⟩ : ∃ g, sa = some ⟨g, 0, none⟩ := by
    rcases HS.out.shape with ⟨h1, h2⟩ | ⟨g, cap, h1, _⟩
    ·
     subst h2; simp at hp
    ·
     exact ⟨g, (Value.slice.inj h1).1⟩
   have e0 := cellBelow (slIs.cell (f := pairCells) (m := 6) pairCells_len HS.out (g := g) rfl hp (j := 0) (u := .int .i64 p.1.kind) rfl) hB
   have e1 := cellBelow (slIs.cell (f := pairCells) (m := 6) pairCells_len HS.out (g := g) rfl hp (j := 1) (u := .int .i64 p.1.n) rfl) hB
   have e2 := cellBelow (slIs.cell (f := pairCells) (m := 6) pairCells_len HS.out (g := g) rfl hp (j := 2) (u := .string p.1.s) rfl) hB
   rw [Nat.add_zero] at e0
   obtain ⟨x0, x1, x2, -⟩ := valBlk hbox
   have hil : (n : Int) < L.length := by omega
   have HP := Lib.hid (And.intro hp hno)
   have HB := Lib.hid (And.intro hB hbox)
   have HL := Lib.hid hlt
   by_cases hk : p.1 = k
   ·
    have HF := Lib.hid (show keyAt L k = n by
     unfold keyAt
     have : L.findIdx? (fun p => decide (p.1 = k)) = some n := by
      rw [List.findIdx?_eq_some_iff_getElem]
      refine ⟨hlt, ?_, fun j hj => ?_⟩
      ·
       have := (List.getElem?_eq_some_iff.1 hp).2; simpa [this] using hk
      ·
       have := hno (L[j]'(by omega)) (List.mem_take_iff_getElem.2 ⟨j, by omega, rfl⟩)
       simpa using this
     rw [this])
    have heq := fun W => eql_vals W p.1 k true (by simpa using hk)
    clear hp hno hB hbox hlt hk
    go_wp2
    go_region
    go_wp2
    go_ret
    rw [HF.out]
    exact ⟨rfl, Below.drew HB.out.1⟩
   ·
    have heq := fun W => eql_vals W p.1 k false (by simpa using hk)
    have HK := Lib.hid hk
    clear hp hno hB hbox hlt hk
    go_wp2
    go_region
    go_wp2
    refine ⟨⟨n + 1, by have := HL.out; omega, by go_num, ?_, Below.drew HB.out.1, HB.out.2⟩, by have := HL.out; simp [intOf]; omega⟩
    rw [List.take_add_one, HP.out.1]
    intro q hq
    rcases List.mem_append.1 hq with h | h
    ·
     exact HP.out.2 q h
    ·
     simp at h; subst h; exact HK.out
  ·
   obtain rfl : n = L.length := by omega
   have HF := Lib.hid (show keyAt L k = -1 by
    rw [List.take_length] at hno
    unfold keyAt
    have : L.findIdx? (fun p => decide (p.1 = k)) = none := by
     rw [List.findIdx?_eq_none_iff]; intro x hx; simpa using hno x hx
    rw [this])
   have HB := Lib.hid hB
   clear hno hB hbox hlt
   go_wp2
   go_ret
   rw [HF.out]
   exact ⟨rfl, HB.out⟩
end Go.Proofs.YtijlebhoapdfnaaGreat
/- The reference's dict: Get. -/
namespace Go.Proofs.YtijlebhoapdfnaaGreat
set_option linter.unusedSimpArgs false
open Go.RowKit
set_option linter.unusedVariables false
theorem keyAt_cases (L : List (V × V)) (k : V) : (keyAt L k = -1 ∧ getL L k = none) ∨ ∃ (n : Nat) (x : V), keyAt L k = n ∧ L[n]? = some (k, x) ∧ getL L k = some x := by
 unfold keyAt getL
 cases h : L.findIdx? (fun p => decide (p.1 = k)) with
 | none =>
  left
  rw [List.findIdx?_eq_none_iff] at h
  refine ⟨rfl, ?_⟩
  rw [List.find?_eq_none.2 (fun x hx => by have := h x hx; simpa using this)]; rfl
 | some n =>
  right
  rw [List.findIdx?_eq_some_iff_getElem] at h
  obtain ⟨hlt, h1, h2⟩ := h
  have hk : L[n].1 = k := by simpa using h1
  have hn : L[n]? = some (k, L[n].2) := by rw [List.getElem?_eq_getElem hlt, ← hk]
  refine ⟨n, L[n].2, rfl, hn, ?_⟩
  rw [find_at hn (by simp) (fun x hx => by
   obtain ⟨j, hj, rfl⟩ := List.mem_take_iff_getElem.1 hx
   have := h2 j (by omega)
   simpa using this)]
  rfl
theorem rdict_get (w : World) (b o : Nat) (k : V) (dv : Value) (L : List (V × V)) (c0 : w.cell? ⟨b, o, none⟩ = some dv) (h2 : slIs w 180 6 pairCells dv L) :
  Calls Tryz.prog 154 #[.pointer (some ⟨b, o, none⟩), k.val] w fun e w' => e = .returned (.tuple #[((getL L k).getD V.zero).val, .bool (getL L k).isSome]) ∧ Below w.heap.size w w' := by
 have hrl := World.block_lt_of_cell? w _ c0
 have HO := Lib.hid (fun W (hb : Below w.heap.size w W) => rdict_at W b o k dv L (cellBelow c0 hb) (h2.of_block fun g hg => hb.block g (h2.lt g hg)))
 rcases keyAt_cases L k with ⟨hk, hg⟩ | ⟨n, x, hk, hn, hg⟩
 ·
  rw [hk] at HO
  rw [hg]
  clear hk hg h2
  simp only [V.val, V.zero, Option.getD_none, Option.isSome_none] at HO ⊢
  go_enter Tryz.func154, Tryz.ntmps154
  go_wp2_with (go_at_call 174; refine (HO.out _ belowA).mono ?_; rintro e w1 ⟨rfl, hb1⟩; have hB : Below w.heap.size w w1 := (by exact Below.next belowA hb1 (by (try simp only [World.size_alloc, size_drew, size_drewN, size_setCell]); omega)); obtain ⟨hc, hf⟩ := bcell hb1; have hz : w.heap.size + 1 < w1.heap.size := (by have := hb1.size; simp at this; omega))
  exact bodyPost_ret (v := .tuple #[.agg #[.int .i64 0, .int .i64 0, .string ⟨#[]⟩], .bool false]) (by simp [results, Tryz.results154, go_sem, hc]) rfl ⟨rfl, by exact belowA⟩
 ·
  obtain ⟨sa, sc, rfl⟩ := h2.form
  obtain ⟨g, rfl⟩ : ∃ g, sa = some ⟨g, 0, none⟩ := by
   rcases h2.shape with ⟨h1, h2⟩ | ⟨g, cap, h1, _⟩
   ·
    subst h2; simp at hn
   ·
    exact ⟨g, (Value.slice.inj h1).1⟩
  have hlt := (List.getElem?_eq_some_iff.1 hn).1
  have hil : (n : Int) < L.length := by omega
  have hlen : (L.length : Int) ≤ 9223372036854775807 := by have := h2.caps; unfold maxLen at this; omega
  have e0 := slIs.cell (f := pairCells) (m := 6) pairCells_len h2 (g := g) rfl hn (j := 3) (u := .int .i64 x.kind) rfl
  have e1 := slIs.cell (f := pairCells) (m := 6) pairCells_len h2 (g := g) rfl hn (j := 4) (u := .int .i64 x.n) rfl
  have e2 := slIs.cell (f := pairCells) (m := 6) pairCells_len h2 (g := g) rfl hn (j := 5) (u := .string x.s) rfl
  have HJ := Lib.hid (fun W (hb : Below w.heap.size w W) => And.intro (cellBelow c0 hb) (And.intro (cellBelow e0 hb) (And.intro (cellBelow e1 hb) (cellBelow e2 hb))))
  rw [hk] at HO
  rw [hg]
  clear hk hg h2 hn hlt e0 e1 e2
  simp only [V.val, Option.getD_some, Option.isSome_some] at HO ⊢
  go_enter Tryz.func154, Tryz.ntmps154
  go_wp2_with (go_at_call 174; refine (HO.out _ belowA).mono ?_; rintro e w1 ⟨rfl, hb1⟩; have hB : Below w.heap.size w w1 := (by exact Below.next belowA hb1 (by (try simp only [World.size_alloc, size_drew, size_drewN, size_setCell]); omega)); obtain ⟨j, j0, j1, j2⟩ := HJ.out _ hB; obtain ⟨hc, hf⟩ := bcell hb1; have hz : w.heap.size + 1 < w1.heap.size := (by have := hb1.size; simp at this; omega))
  exact bodyPost_ret (v := .tuple #[.agg #[.int .i64 x.kind, .int .i64 x.n, .string x.s], .bool true]) (by simp [results, Tryz.results154, go_sem, hc]) rfl ⟨rfl, by exact belowA⟩
end Go.Proofs.YtijlebhoapdfnaaGreat
/- The reference's heap: Get. -/
namespace Go.Proofs.YtijlebhoapdfnaaGreat
set_option linter.unusedSimpArgs false
open Go.RowKit
set_option linter.unusedVariables false
theorem ref_get (w : World) (r : Nat) (v k : V) {H : HeapM} {F : List Nat} (R : RefIs w r H F) :
  Calls Tryz.prog 81 #[.pointer (some ⟨r, 0, none⟩), v.val, k.val] w fun e w' => e = .returned (.tuple #[((H.get v k).getD V.zero).val, .bool (H.get v k).isSome]) ∧ Below w.heap.size w w' := by
 obtain ⟨rows, sv, h1, h2, h3, h4, -⟩ := R
 have HO := Lib.hid (ref_of_at h1 h2 h3 v)
 have he := ofR_of h4 v
 cases hf : ofR rows v with
 | none =>
  have HE := Lib.hid (show H.get v k = none by simp [HeapM.get, HeapM.pairs, he, hf, getL])
  rw [hf] at HO
  rw [HE.out]
  clear h1 h2 h3 h4 he hf HE
  simp only [V.val] at HO ⊢
  go_enter Tryz.func81, Tryz.ntmps81
  go_wp2_with (go_at_call 128; refine (HO.out _ belowA).mono ?_; rintro e w1 ⟨rfl, hb1⟩; have hB : Below w.heap.size w w1 := (by exact Below.next belowA hb1 (by (try simp only [World.size_alloc, size_drew, size_drewN, size_setCell]); omega)); obtain ⟨hc, hf⟩ := bcell hb1; have hz : w.heap.size + 2 < w1.heap.size := (by have := hb1.size; simp at this; omega))
  exact bodyPost_ret (v := .tuple #[.agg #[.int .i64 0, .int .i64 0, .string ⟨#[]⟩], .bool false]) (by simp [results, Tryz.results81, go_sem, hc]) rfl ⟨rfl, by exact belowA⟩
 | some p =>
  have hp := (ofR_mem hf).1
  have hG : H.get v k = getL p.o.pairs k := by simp [HeapM.get, HeapM.pairs, he, hf, getL]
  have HG := Lib.hid (fun W (hb : Below w.heap.size w W) => rdict_get W p.b 5 k p.dv p.o.pairs (cellBelow (cellAt (h3 p hp).1 5 (v := p.dv) rfl) hb) ((h3 p hp).2.2.of_block fun g hg => hb.block g ((h3 p hp).2.2.lt g hg)))
  have HL := Lib.hid (fun W (hb : Below w.heap.size w W) => And.intro (Nat.lt_of_lt_of_le (blockLt (h3 p hp).1) hb.size) (cellBelow (cellAt (h3 p hp).1 5 (v := p.dv) rfl) hb))
  rw [hf] at HO
  rw [hG]
  clear h1 h2 h3 h4 he hf hp hG
  generalize getL p.o.pairs k = res at *
  obtain ⟨y, b, hy⟩ : ∃ (y : V) (b : Bool), (y = res.getD V.zero) ∧ b = res.isSome := ⟨_, _, rfl, rfl⟩
  rw [← hy.1, ← hy.2] at HG ⊢
  clear hy
  simp only [V.val] at HO HG ⊢
  go_enter Tryz.func81, Tryz.ntmps81
  go_upto_region 4 with (go_at_call 128; refine (HO.out _ belowA).mono ?_; rintro e w1 ⟨rfl, hb1⟩)
  have hB : Below w.heap.size w w1 := by exact Below.next belowA hb1 (by (try simp only [World.size_alloc, size_drew, size_drewN, size_setCell]); omega)
  have hk1 : w1.heap[w.heap.size + 1]? = some (valObj k) := by
   have := blockBelow (blockAlloc (heapAllocNew (w.alloc (valObj v)) (valObj k))) hb1
   simp only [World.size_alloc] at this; exact this
  have hr1 : w1.heap[w.heap.size + 2]? = some (valObj V.zero) := by have := boxAt hb1; simp only [World.size_alloc] at this; exact this
  obtain ⟨p0, p1, p2, _⟩ := valBlkO hk1
  have hz1 : w.heap.size + 1 < w1.heap.size := blockLt hk1
  obtain ⟨hbl, k5⟩ := HL.out w1 hB
  go_cut [9, 10] (fun s9 s10 wx => WasAt w1 y b s9 s10 wx)
  case first =>
   go_region_with (go_at_call 154; (refine (HG.out _ belowA).mono ?_; rintro e w2 ⟨rfl, hb2⟩; have hB2 : Below w.heap.size w w2 := (by exact Below.next belowA hb2 (by (try simp only [World.size_alloc, size_drew, size_drewN, size_setCell]); omega)); obtain ⟨hc2, hf2⟩ := bcell hb2))
   all_goals (go_wp2_with fail; go_meet)
   all_goals first | exact wasB hb2 | exact wasA hb2
  case rest =>
   obtain ⟨q, rfl, rfl, hq, hq2, hb3⟩ := hcut
   have hB3 : Below w.heap.size w wc := Below.next hB hb3 hB.size
   obtain ⟨q0, q1, q2, _⟩ := valBlkO hq
   have hr3 := blockBelow hr1 hb3
   obtain ⟨t0, t1, t2, t3, t4, t5⟩ := valBlkO hr3
   simp only [V.zero] at t0 t1 t2
   have hzq := blockLt hq
   have hzr := blockLt hr3
   clear p0 p1 p2 hr1 hk1 hq k5 hbl
   go_wp2
   exact bodyPost_ret (v := .tuple #[.agg #[.int .i64 y.kind, .int .i64 y.n, .string y.s], .bool b]) (by simp [results, Tryz.results81, go_sem, t0, t1, t2]) rfl ⟨rfl, by exact belowA⟩
end Go.Proofs.YtijlebhoapdfnaaGreat
/- The reference's heap stays where its blocks stay. -/
namespace Go.Proofs.YtijlebhoapdfnaaGreat
set_option linter.unusedSimpArgs false
open Go.RowKit
set_option linter.unusedVariables false
theorem RefIs.of_block {w W : World} {r : Nat} {H : HeapM} {F : List Nat} (R : RefIs w r H F) (hb : ∀ b ∈ F, W.heap[b]? = w.heap[b]?) : RefIs W r H F := by
 obtain ⟨rows, sv, h1, h2, h3, h4, h5, h6⟩ := R
 subst h5
 have hp : ∀ p ∈ rows, ∀ g ∈ p.blocks, W.heap[g]? = w.heap[g]? := fun p hp g hg => hb g (List.mem_cons_of_mem _ (List.mem_append_right _ (List.mem_flatMap.2 ⟨p, hp, hg⟩)))
 refine ⟨rows, sv, (hb r List.mem_cons_self).trans h1, h2.of_block fun g hg => hb g (by simp [hg]), fun p hp' => ⟨?_, ?_, ?_⟩, h4, rfl, h6⟩
 ·
  exact (hp p hp' p.b (by simp [RRow.blocks])).trans (h3 p hp').1
 ·
  exact (h3 p hp').2.1.of_block fun g hg => hp p hp' g (by simp [RRow.blocks, hg])
 ·
  exact (h3 p hp').2.2.of_block fun g hg => hp p hp' g (by simp [RRow.blocks, hg])
theorem RefIs.lt {w : World} {r : Nat} {H : HeapM} {F : List Nat} (R : RefIs w r H F) : ∀ b ∈ F, b < w.heap.size := by
 obtain ⟨rows, sv, h1, h2, h3, h4, h5, h6⟩ := R
 subst h5
 intro b hb
 rcases List.mem_cons.1 hb with h | h
 ·
  subst h; exact blockLt h1
 ·
  rcases List.mem_append.1 h with h | h
  ·
   exact h2.lt b (by simpa using h)
  ·
   obtain ⟨p, hp, hg⟩ := List.mem_flatMap.1 h
   simp only [RRow.blocks, List.mem_cons, List.mem_append, Option.mem_toList] at hg
   rcases hg with e | e | e
   ·
    subst e; exact blockLt (h3 p hp).1
   ·
    exact (h3 p hp).2.1.lt b e
   ·
    exact (h3 p hp).2.2.lt b e
theorem RefIs.below {w W : World} {r : Nat} {H : HeapM} {F : List Nat} (R : RefIs w r H F) (hb : Below w.heap.size w W) : RefIs W r H F := R.of_block fun b h => hb.block b (R.lt b h)
end Go.Proofs.YtijlebhoapdfnaaGreat
/- The reference's heap among other things; one of its objects by itself. -/
namespace Go.Proofs.YtijlebhoapdfnaaGreat
set_option linter.unusedSimpArgs false
open Go.RowKit
set_option linter.unusedVariables false
abbrev pairsR (v : Value) (l : List (V × V)) : Res := rowR 180 6 pairCells v l
def refR (r : Nat) (H : HeapM) : Res := ⟨fun W F => RefIs W r H F, fun {W W' F} h k => h.of_block k, fun {W F} h => h.lt⟩
/-- An object of the reference, as it lies. -/
def robj (n : Int) (o : ObjM) (iv dv : Value) : Obj := .cells #[.int .i64 n, .int .i64 o.kind, .string o.name, .int .i64 o.num, iv, dv] 101
def rowRes (p : RRow) : List Res := [boxR p.b (robj p.n p.o p.iv p.dv), valsR p.iv p.o.items, pairsR p.dv p.o.pairs]
def rhead (sv : Value) (last : Int) : Obj := .cells #[sv, .int .i64 last] 59
abbrev ptrsR (sv : Value) (rows : List RRow) : Res := rowR 102 1 RRow.ptr sv rows
def refParts (r : Nat) (sv : Value) (last : Int) (rows : List RRow) : List Res := boxR r (rhead sv last) :: ptrsR sv rows :: rows.flatMap rowRes
theorem SepF.unapp : ∀ {As Bs : List Res} {W : World} {F : List Nat}, SepF (As ++ Bs) W F → ∃ F1 F2, SepF As W F1 ∧ SepF Bs W F2 ∧ F = F1 ++ F2
 | [], _, _, F, h => ⟨[], F, rfl, h, rfl⟩
 | R :: As, Bs, W, F, ⟨F1, F2, h1, h2, e⟩ => by
  obtain ⟨G1, G2, g1, g2, rfl⟩ := SepF.unapp h2
  exact ⟨F1 ++ G1, G2, ⟨F1, G1, h1, g1, rfl⟩, g2, by rw [e, List.append_assoc]⟩
theorem rowsF {W : World} : ∀ {rows : List RRow} {F : List Nat}, SepF (rows.flatMap rowRes) W F ↔ (∀ p ∈ rows, p.At W) ∧ F = rows.flatMap RRow.blocks
 | [], F => by simp [SepF]
 | p :: rows, F => by
  constructor
  ·
   intro h
   obtain ⟨F1, F2, h1, h2, rfl⟩ := SepF.unapp (As := rowRes p) h
   obtain ⟨k1, rfl⟩ := rowsF.1 h2
   obtain ⟨G1, G2, g1, ⟨G3, G4, g3, ⟨G5, G6, g5, g6, rfl⟩, rfl⟩, rfl⟩ := h1
   have e6 : G6 = [] := g6
   subst e6
   obtain ⟨g1, rfl⟩ := g1
   obtain ⟨g3, rfl⟩ := g3
   obtain ⟨g5, rfl⟩ := g5
   refine ⟨fun q hq => ?_, by simp [RRow.blocks]⟩
   rcases List.mem_cons.1 hq with e | hq
   ·
    subst e; exact ⟨g1, g3, g5⟩
   ·
    exact k1 q hq
  ·
   rintro ⟨h1, rfl⟩
   have hp := h1 p (by simp)
   have h2 : SepF (rows.flatMap rowRes) W (rows.flatMap RRow.blocks) := rowsF.2 ⟨fun q hq => h1 q (by simp [hq]), rfl⟩
   have h3 : SepF (rowRes p) W (RRow.blocks p) := ⟨[p.b], p.iv.ownBlock.toList ++ p.dv.ownBlock.toList, ⟨hp.1, rfl⟩, ⟨p.iv.ownBlock.toList, p.dv.ownBlock.toList, ⟨hp.2.1, rfl⟩, ⟨p.dv.ownBlock.toList, [], ⟨hp.2.2, rfl⟩, rfl, by simp⟩, rfl⟩, rfl⟩
   exact h3.app h2
theorem refF {W : World} {r : Nat} {H : HeapM} {F : List Nat} : RefIs W r H F ↔ ∃ rows sv, SepF (refParts r sv H.last rows) W F ∧ F.Nodup ∧ H.objs = rows.map (fun p => (p.n, p.o)) := by
 constructor
 ·
  rintro ⟨rows, sv, h1, h2, h3, h4, rfl, h6⟩
  exact ⟨rows, sv, ⟨[r], _, ⟨h1, rfl⟩, ⟨sv.ownBlock.toList, _, ⟨h2, rfl⟩, rowsF.2 ⟨h3, rfl⟩, rfl⟩, rfl⟩, h6, h4⟩
 ·
  rintro ⟨rows, sv, ⟨F1, F2, ⟨h1, rfl⟩, ⟨F3, F4, ⟨h3, rfl⟩, h4, rfl⟩, rfl⟩, h5, h6⟩
  obtain ⟨k1, rfl⟩ := rowsF.1 h4
  exact ⟨rows, sv, h1, h3, k1, h6, rfl, h5⟩
section
variable {w W : World} {r : Nat} {H : HeapM} {Rs : List Res}
theorem Sep.openRef (S : Sep w (refR r H :: Rs) W) : ∃ rows sv, Sep w (refParts r sv H.last rows ++ Rs) W ∧ H.objs = rows.map (fun p => (p.n, p.o)) := by
 obtain ⟨hw, F, ⟨F1, F2, h1, h2, rfl⟩, f2, f3⟩ := S
 obtain ⟨rows, sv, g1, -, g3⟩ := refF.1 h1
 exact ⟨rows, sv, ⟨hw, F1 ++ F2, g1.app h2, f2, f3⟩, g3⟩
theorem Sep.shutRef {rows : List RRow} {sv : Value} (S : Sep w (refParts r sv H.last rows ++ Rs) W) (h : H.objs = rows.map (fun p => (p.n, p.o))) : Sep w (refR r H :: Rs) W := by
 obtain ⟨hw, F, f1, f2, f3⟩ := S
 obtain ⟨F1, F2, h1, h2, rfl⟩ := f1.unapp
 exact ⟨hw, F1 ++ F2, ⟨F1, F2, refF.2 ⟨rows, sv, h1, (List.nodup_append.1 f2).1, h⟩, h2, rfl⟩, f2, f3⟩
/-- A thing may be told in other words. -/
theorem Sep.told {R R' : Res} (S : Sep w Rs W) (i : Nat) (hi : Rs[i]? = some R) (h : ∀ W F, R.is W F → R'.is W F) : Sep w (Rs.set i R') W :=
 S.turn i hi fun F hF hn _ => ⟨F, h W F hF, hn, Grow.refl _ _, Outside.refl _ _⟩
theorem ofR_split {rows : List RRow} {v : V} {p : RRow} (h : ofR rows v = some p) : ∃ l1 l2, rows = l1 ++ p :: l2 ∧ (∀ q ∈ l1, q.n ≠ v.n) ∧ v.kind = 4 ∧ p.n = v.n := by
 unfold ofR at h
 split at h
 ·
  rename_i hk
  obtain ⟨h1, l1, l2, h2, h3⟩ := List.find?_eq_some_iff_append.1 h
  exact ⟨l1, l2, h2, fun q hq => by simpa using h3 q hq, hk, by simpa using h1⟩
 ·
  cases h
theorem ptrs_same {l1 l2 : List RRow} {p p' : RRow} (hb : p'.b = p.b) (sv : Value) (W : World) (F : List Nat) (h : (ptrsR sv (l1 ++ p :: l2)).is W F) : (ptrsR sv (l1 ++ p' :: l2)).is W F := by
 have e1 : (l1 ++ p' :: l2).flatMap RRow.ptr = (l1 ++ p :: l2).flatMap RRow.ptr := by simp [RRow.ptr, hb]
 have e2 : (l1 ++ p' :: l2).length = (l1 ++ p :: l2).length := by simp
 obtain ⟨h1, h2⟩ := h
 refine ⟨?_, h2⟩
 unfold slIs at h1 ⊢
 rw [e1, e2]; exact h1
theorem set_split {l1 l2 : List RRow} {p : RRow} {v : V} (hn : ((l1 ++ p :: l2).map (·.n)).Nodup) (hp : p.n = v.n) (o' : ObjM) (iv dv : Value) :
  ((l1 ++ p :: l2).map fun p => (p.n, p.o)).map (fun q => if q.1 = v.n then (v.n, o') else q) = (l1 ++ (⟨p.n, p.b, o', iv, dv⟩ : RRow) :: l2).map fun p => (p.n, p.o) := by
 rw [List.map_append, List.map_cons] at hn
 have hd := List.nodup_append.1 hn
 have hd2 := List.nodup_cons.1 hd.2.1
 have f : ∀ l : List RRow, (∀ q ∈ l, q.n ≠ v.n) → (l.map fun p => (p.n, p.o)).map (fun q => if q.1 = v.n then (v.n, o') else q) = l.map fun p => (p.n, p.o) := fun l hl => by
  rw [List.map_map]
  exact List.map_congr_left fun q hq => if_neg (hl q hq)
 rw [List.map_append, List.map_append, List.map_append, List.map_cons, List.map_cons, List.map_cons, f l1 fun q hq e => ?_, f l2 fun q hq e => ?_]
 ·
  simp [hp]
 ·
  exact hd2.1 (List.mem_map.2 ⟨q, hq, e.trans hp.symm⟩)
 ·
  exact hd.2.2 q.n (List.mem_map.2 ⟨q, hq, rfl⟩) p.n (by simp) (e.trans hp.symm)
/-- Of, and its object by itself. -/
theorem Sep.refOf (S : Sep w (refR r H :: Rs) W) (hn : (H.objs.map (·.1)).Nodup) (v : V) :
  (H.of v = none ∧ ∀ W0, Below W.heap.size W W0 → Calls Tryz.prog 128 #[.pointer (some ⟨r, 0, none⟩), v.val] W0 fun e W' => e = .returned (.pointer none) ∧ Below W0.heap.size W0 W') ∨
  ∃ o b iv dv K, H.of v = some o ∧ (∀ W0, Below W.heap.size W W0 → Calls Tryz.prog 128 #[.pointer (some ⟨r, 0, none⟩), v.val] W0 fun e W' => e = .returned (.pointer (some ⟨b, 0, none⟩)) ∧ Below W0.heap.size W0 W') ∧
   Rs.Sublist K ∧ Sep w (boxR b (robj v.n o iv dv) :: valsR iv o.items :: pairsR dv o.pairs :: K) W ∧
   ∀ W' o' iv' dv', Sep w (boxR b (robj v.n o' iv' dv') :: valsR iv' o'.items :: pairsR dv' o'.pairs :: K) W' → Sep w (refR r (H.set v.n o') :: Rs) W' := by
 obtain ⟨F, ⟨rows0, sv0, g1, g2, g3, g4, -⟩, -⟩ := S.get 0 rfl
 have HO := ref_of_at g1 g2 g3 v
 have he := ofR_of g4 v
 clear g1 g2 g3
 obtain ⟨rows, sv, T, h4⟩ := S.openRef
 have hcells := T.box 0 rfl
 have hptr := T.row 1 rfl
 obtain ⟨F', f1, -⟩ := T.2
 obtain ⟨F1, F2, k1, k2, -⟩ := f1.unapp
 obtain ⟨F3, F4, ⟨m1, -⟩, ⟨F5, F6, ⟨m2, -⟩, m3, -⟩, -⟩ := k1
 have hat := (rowsF.1 m3).1
 have HO := ref_of_at m1 m2 hat v
 have he := ofR_of h4 v
 cases hf : ofR rows v with
 | none =>
  left
  rw [hf] at he HO
  exact ⟨he, fun W0 hb => HO W0 hb⟩
 | some p =>
  right
  rw [hf] at he HO
  obtain ⟨l1, l2, rfl, h1, hk, hp⟩ := ofR_split hf
  have hnn : ((l1 ++ p :: l2).map (·.n)).Nodup := by rw [h4] at hn; simpa [List.map_map, Function.comp_def] using hn
  refine ⟨p.o, p.b, p.iv, p.dv, boxR r (rhead sv H.last) :: ptrsR sv (l1 ++ p :: l2) :: (l1.flatMap rowRes ++ (l2.flatMap rowRes ++ Rs)), he, fun W0 hb => HO W0 hb, .cons _ (.cons _ ((List.sublist_append_right _ _).trans (List.sublist_append_right _ _))), ?_, fun W' o' iv' dv' S' => ?_⟩
  ·
   have e : refParts r sv H.last (l1 ++ p :: l2) ++ Rs = boxR r (rhead sv H.last) :: ptrsR sv (l1 ++ p :: l2) :: (l1.flatMap rowRes ++ (rowRes p ++ (l2.flatMap rowRes ++ Rs))) := by
    simp [refParts, List.flatMap_append, List.flatMap_cons, List.append_assoc]
   rw [e] at T
   have e2 : rowRes p = [boxR p.b (robj v.n p.o p.iv p.dv), valsR p.iv p.o.items, pairsR p.dv p.o.pairs] := by rw [rowRes, hp]
   rw [e2] at T
   refine T.perm ?_
   have := List.perm_append_comm_assoc (boxR r (rhead sv H.last) :: ptrsR sv (l1 ++ p :: l2) :: l1.flatMap rowRes) [boxR p.b (robj v.n p.o p.iv p.dv), valsR p.iv p.o.items, pairsR p.dv p.o.pairs] (l2.flatMap rowRes ++ Rs)
   simpa [List.append_assoc] using this
  ·
   have T' : Sep w (boxR r (rhead sv H.last) :: ptrsR sv (l1 ++ p :: l2) :: (l1.flatMap rowRes ++ ([boxR p.b (robj v.n o' iv' dv'), valsR iv' o'.items, pairsR dv' o'.pairs] ++ (l2.flatMap rowRes ++ Rs)))) W' := by
    refine S'.perm ?_
    have := List.perm_append_comm_assoc [boxR p.b (robj v.n o' iv' dv'), valsR iv' o'.items, pairsR dv' o'.pairs] (boxR r (rhead sv H.last) :: ptrsR sv (l1 ++ p :: l2) :: l1.flatMap rowRes) (l2.flatMap rowRes ++ Rs)
    simpa [List.append_assoc] using this
   have T2 := T'.told 1 rfl (ptrs_same (l1 := l1) (l2 := l2) (p := p) (p' := ⟨p.n, p.b, o', iv', dv'⟩) rfl sv)
   have e : refParts r sv (H.set v.n o').last (l1 ++ (⟨p.n, p.b, o', iv', dv'⟩ : RRow) :: l2) ++ Rs = boxR r (rhead sv H.last) :: ptrsR sv (l1 ++ (⟨p.n, p.b, o', iv', dv'⟩ : RRow) :: l2) :: (l1.flatMap rowRes ++ ([boxR p.b (robj v.n o' iv' dv'), valsR iv' o'.items, pairsR dv' o'.pairs] ++ (l2.flatMap rowRes ++ Rs))) := by
    simp [refParts, List.flatMap_append, List.flatMap_cons, List.append_assoc, rowRes, hp, HeapM.set]
   refine Sep.shutRef (rows := l1 ++ (⟨p.n, p.b, o', iv', dv'⟩ : RRow) :: l2) (sv := sv) (by rw [e]; exact T2) ?_
   show H.objs.map _ = _
   rw [h4]
   exact set_split hnn hp o' iv' dv'
end
end Go.Proofs.YtijlebhoapdfnaaGreat
