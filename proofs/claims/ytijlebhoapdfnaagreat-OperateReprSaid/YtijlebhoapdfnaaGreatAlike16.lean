/- ch 16: alike: a heap and the document's, of the same objects. -/
import Derived.Test.YtijlebhoapdfnaaGreatMade16
import Derived.Test.YtijlebhoapdfnaaGreatTellA
import Derived.Test.YtijlebhoapdfnaaGreatCore
import Derived.Test.YtijlebhoapdfnaaGreatRef2
/- The reference's heap: Keys, loose. -/
/- The reference's heap: All, Live, Keys, holds, Refs, Count. -/
set_option maxRecDepth 100000
set_option maxHeartbeats 1600000
namespace Go.Proofs.YtijlebhoapdfnaaGreat
set_option linter.unusedSimpArgs false
open Go.RowKit
set_option linter.unusedVariables false
/-- What a heap of the reference shows, cell by cell. -/
structure RefCells (w : World) (r : Nat) (H : HeapM) (rows : List RRow) (sa : Option Addr) (sc : Nat) : Prop where
 head : w.cell? ⟨r, 0, none⟩ = some (.slice sa rows.length sc)
 objs : H.objs = rows.map (fun p => (p.n, p.o))
 row : ∀ (k : Nat) (p : RRow), rows[k]? = some p → ∃ g, sa = some ⟨g, 0, none⟩ ∧ w.cell? ⟨g, k, none⟩ = some (.pointer (some ⟨p.b, 0, none⟩)) ∧ p.At w
 of_ : ∀ (v : V) (W : World), Below w.heap.size w W → Calls Tryz.prog 128 #[.pointer (some ⟨r, 0, none⟩), v.val] W fun e w' => e = .returned (.pointer ((ofR rows v).map fun p => ⟨p.b, 0, none⟩)) ∧ Below W.heap.size W w'
theorem RefIs.cells {w : World} {r : Nat} {H : HeapM} {F : List Nat} (R : RefIs w r H F) : ∃ rows sa sc, RefCells w r H rows sa sc := by
 obtain ⟨rows, sv, h1, h2, h3, h4, -⟩ := R
 have ho := fun v W hb => ref_of_at h1 h2 h3 v W hb
 obtain ⟨sa, sc, rfl⟩ := h2.form
 refine ⟨rows, sa, sc, cellAt h1 0 rfl, h4, fun k p hp => ?_, ho⟩
 obtain ⟨g, rfl⟩ : ∃ g, sa = some ⟨g, 0, none⟩ := by
  rcases h2.shape with ⟨h1, h5⟩ | ⟨g, cap, h1, _⟩
  ·
   rw [h5] at hp; simp at hp
  ·
   exact ⟨g, (Value.slice.inj h1).1⟩
 refine ⟨g, rfl, ?_, h3 p (List.mem_of_getElem? hp)⟩
 have := slIs.cell (f := RRow.ptr) (m := 1) (fun _ => rfl) h2 (g := g) rfl hp (j := 0) (show (RRow.ptr p)[0]? = some (.pointer (some ⟨p.b, 0, none⟩)) from rfl)
 simpa using this
section
variable {w : World} {r : Nat} {H : HeapM} {rows : List RRow} {sa : Option Addr} {sc : Nat}
theorem ref_all (R : RefCells w r H rows sa sc) (hl : rows.length ≤ 4000000) :
  Calls Tryz.prog 70 #[.pointer (some ⟨r, 0, none⟩)] w fun e W => ∃ v, e = .returned v ∧ Sep w [numsR v (H.objs.map (·.1))] W := by
 have HR := Lib.hid R
 have hli : (rows.length : Int) ≤ 4000000 := by omega
 have S0 := Lib.hid ((Sep.start (Below.refl w.heap.size w)).madeNums)
 have hlist : H.objs.map (·.1) = rows.map (·.n) := by rw [R.objs, List.map_map]; rfl
 rw [hlist]
 have hb0 := World.block_lt_of_cell? _ _ R.head
 clear R hlist
 go_enter Tryz.func70, Tryz.ntmps70
 go_wp2
 go_loopw [3, 4] (fun out i wr => ∃ k : Nat, k ≤ rows.length ∧ i = .int .i64 k ∧ Sep w [numsR out ((rows.map (·.n)).take k)] wr) (fun _ i _ => rows.length - (intOf i).toNat)
 case atStart => exact ⟨0, by omega, rfl, S0.out⟩
 case round =>
  clear S0
  obtain ⟨k, hk, rfl, S1⟩ := hrel
  obtain ⟨oa, oc, rfl⟩ := (S1.row 0 rfl).form
  have c0 := cellBelow HR.out.head S1.below
  have hLl : ((rows.map (·.n)).take k).length ≤ 4000000 := by simp; omega
  obtain ⟨L, hL⟩ : ∃ L, (rows.map (·.n)).take k = L := ⟨_, rfl⟩
  rw [hL] at S1 hLl ⊢
  by_cases hlt : k < rows.length
  ·
   have hlti : (k : Int) < rows.length := by omega
   obtain ⟨p, hp⟩ : ∃ p, rows[k]? = some p := ⟨rows[k], by simp [hlt]⟩
   obtain ⟨g, rfl, e0, hat⟩ := HR.out.row k p hp
   have e1 := cellBelow e0 S1.below
   have f1 := cellBelow (cellAt hat.1 0 (v := .int .i64 p.n) rfl) S1.below
   have hnext : L ++ [p.n] = (rows.map (·.n)).take (k + 1) := by
    rw [← hL, List.take_add_one, List.getElem?_map, hp]; rfl
   have HX := Lib.hid (And.intro hnext (And.intro hlt hLl))
   have S2 := Lib.hid S1
   clear S1 hnext hlt hLl hL hp hat e0
   go_wp2_with (at_builtin; refine wpList_push_sep rfl _ _ rfl (S2.out.later (belowAlloc _ _)) 0 rfl rfl _ _ rfl (cell_of_row _ _ _ _ _ _ (heapAllocNew _ _)) (by have := HX.out.2.2; omega) ?_)
   intro va vc w2 S3
   replace S3 := Lib.hid S3
   clear S2 c0 e1 f1
   go_wp2
   refine ⟨⟨k + 1, by have := HX.out.2.1; omega, by go_num, ?_⟩, by have := HX.out.2.1; simp [intOf]; omega⟩
   rw [← HX.out.1]; simpa using S3.out
  ·
   have hlti : ¬ (k : Int) < rows.length := by omega
   have hfin : L = rows.map (·.n) := by rw [← hL, List.take_of_length_le (by simp; omega)]
   rw [hfin] at S1
   have hll : L.length = (rows.map (·.n)).length := by rw [hfin]
   rw [hll]
   obtain ⟨NS, hNS⟩ : ∃ NS, rows.map (·.n) = NS := ⟨_, rfl⟩
   rw [hNS] at S1 hll ⊢
   have HNS := Lib.hid hNS
   have S2 := Lib.hid S1
   clear S1 hlt hL hfin hLl hll hNS
   go_wp2
   go_ret
   exact ⟨_, rfl, by rw [HNS.out]; exact S2.out⟩
end
section
variable {w W : World} {r : Nat} {H : HeapM} {rows : List RRow} {sa : Option Addr} {sc : Nat}
theorem RefCells.later (R : RefCells w r H rows sa sc) (hb : Below w.heap.size w W) : RefCells W r H rows sa sc :=
 ⟨cellBelow R.head hb, R.objs, fun k p hp => by
  obtain ⟨g, h1, h2, h3⟩ := R.row k p hp
  exact ⟨g, h1, cellBelow h2 hb, h3.below hb⟩, fun v W' hb' => R.of_ v W' (Below.next hb hb' hb.size)⟩
end
section
variable {w W : World} {r : Nat} {H : HeapM} {rows : List RRow} {sa : Option Addr} {sc : Nat}
/-- Of is met. -/
theorem of_cases (R : RefCells w r H rows sa sc) (v : V) : (H.of v = none ∧ ofR rows v = none) ∨ ∃ p, ofR rows v = some p ∧ H.of v = some p.o ∧ p.At w := by
 have he := ofR_of R.objs v
 cases hf : ofR rows v with
 | none => left; rw [hf] at he; exact ⟨he, rfl⟩
 | some p =>
  right
  rw [hf] at he
  obtain ⟨k, hk⟩ := List.getElem?_of_mem (ofR_mem hf).1
  obtain ⟨g, _, _, hat⟩ := R.row k p hk
  exact ⟨p, rfl, he, hat⟩
end
end Go.Proofs.YtijlebhoapdfnaaGreat
/- What a sweep keeps, plainly: of any heap. -/
namespace Go.Proofs.YtijlebhoapdfnaaGreat
set_option linter.unusedSimpArgs false
open Go.RowKit
set_option linter.unusedVariables false
end Go.Proofs.YtijlebhoapdfnaaGreat
set_option maxRecDepth 100000
set_option maxHeartbeats 1600000
namespace Go.Proofs.YtijlebhoapdfnaaGreat
set_option linter.unusedSimpArgs false
open Go.RowKit
set_option linter.unusedVariables false
theorem sees_val {W : World} {bk : Nat} (v : V) (h : W.heap[bk]? = some (.cells #[.int .i64 v.kind, .int .i64 v.n, .string v.s] 24)) : SeesV W (.slice (some ⟨bk, 0, none⟩) 1 1) [v] := by
 refine ⟨_, 1, rfl, by simp, by simp [maxLen], .inr ⟨bk, 0, rfl, fun i x hx => ?_⟩⟩
 match i, hx with
 | 0, hx => simp at hx; subst hx; exact ⟨cellAt h 0 rfl, cellAt h 1 rfl, cellAt h 2 rfl⟩
 | i + 1, hx => simp at hx
section
variable {w W : World} {r : Nat} {H : HeapM} {rows : List RRow} {sa : Option Addr} {sc : Nat}
theorem ref_keys (R : RefCells w r H rows sa sc) {N : Nat} (G : H.Good N) (hN : N ≤ 4000000) (v : V) :
  Calls Tryz.prog 71 #[.pointer (some ⟨r, 0, none⟩), v.val] w fun e W => ∃ sv, e = .returned sv ∧ Sep w [valsR sv ((H.pairs v).map (·.1))] W := by
 have HO := Lib.hid (R.of_ v)
 rcases of_cases R v with ⟨h1, h2⟩ | ⟨p, h1, h2, hat⟩
 ·
  have hp : (H.pairs v).map (·.1) = [] := by unfold HeapM.pairs; rw [h1]; rfl
  rw [hp]
  rw [h2] at HO
  clear R h1 h2 hp
  simp only [V.val] at *
  go_enter Tryz.func71, Tryz.ntmps71
  go_wp2_with fail
  refine (HO.out _ belowA).mono ?_
  rintro e w1 ⟨rfl, hb1⟩
  have hB : Below w.heap.size w w1 := by exact Below.next belowA hb1 (by (try simp only [World.size_alloc, size_drew, size_drewN, size_setCell]); omega)
  have S := Lib.hid (Sep.start hB).madeVals
  clear hb1 hB HO
  go_wp2
  go_loopw [6] (fun out wr => Sep w [valsR out []] wr) (fun out _ => 0)
  case atStart => exact S.out
  case round =>
   clear S
   obtain ⟨oa, oc, rfl⟩ := (hrel.row 0 rfl).form
   have S2 := Lib.hid hrel
   clear hrel
   go_wp2
   go_ret
   exact ⟨_, rfl, S2.out⟩
 ·
  have hpe : H.pairs v = p.o.pairs := by unfold HeapM.pairs; rw [h2]; rfl
  rw [hpe]
  rw [h1] at HO
  have hw : p.o.pairs.length ≤ N := by
   have h3 : p.o.vals.length ≤ H.weight := vals_le_weight (getL_mem (HeapM.of_some h2).2)
   have := G.wt
   unfold ObjM.vals at h3
   simp at h3; omega
  have hli2 : (p.o.pairs.length : Int) ≤ 4000000 := by omega
  obtain ⟨da, dc, hdv⟩ := hat.2.2.form
  have c5 := cellAt hat.1 5 (v := .slice da p.o.pairs.length dc) (by rw [← hdv]; rfl)
  have hD := hat.2.2
  rw [hdv] at hD
  have HD := Lib.hid (And.intro hD c5)
  clear R h1 h2 hat hw hpe hdv hD c5
  simp only [V.val] at *
  go_enter Tryz.func71, Tryz.ntmps71
  go_wp2_with fail
  refine (HO.out _ belowA).mono ?_
  rintro e w1 ⟨rfl, hb1⟩
  have hB : Below w.heap.size w w1 := by exact Below.next belowA hb1 (by (try simp only [World.size_alloc, size_drew, size_drewN, size_setCell]); omega)
  have S := Lib.hid (Sep.start hB).madeVals
  clear hb1 hB HO
  go_wp2
  go_loopw [6, 7] (fun out i wr => ∃ k : Nat, k ≤ p.o.pairs.length ∧ i = .int .i64 k ∧ Sep w [valsR out ((p.o.pairs.map (·.1)).take k)] wr) (fun _ i _ => p.o.pairs.length - (intOf i).toNat)
  case atStart => exact ⟨0, by omega, rfl, S.out⟩
  case round =>
   clear S
   obtain ⟨j, hj, rfl, S1⟩ := hrel
   obtain ⟨oa, oc, rfl⟩ := (S1.row 0 rfl).form
   have c5 := cellBelow HD.out.2 S1.below
   have hMl : ((p.o.pairs.map (·.1)).take j).length ≤ 4000000 := by simp; omega
   have hend : p.o.pairs.length ≤ j → (p.o.pairs.map (·.1)).take j = p.o.pairs.map (·.1) := fun h => by rw [List.take_of_length_le (by simpa using h)]
   have hnx := fun x (hx : p.o.pairs[j]? = some x) => (show (p.o.pairs.map (·.1)).take (j + 1) = (p.o.pairs.map (·.1)).take j ++ [x.1] by rw [List.take_add_one, List.getElem?_map, hx]; rfl)
   obtain ⟨M, hM⟩ : ∃ M, (p.o.pairs.map (·.1)).take j = M := ⟨_, rfl⟩
   rw [hM] at S1 hMl hend hnx ⊢
   by_cases hlt : j < p.o.pairs.length
   ·
    have hltj : (j : Int) < p.o.pairs.length := by omega
    obtain ⟨y, hy⟩ : ∃ y, p.o.pairs[j]? = some y := ⟨p.o.pairs[j], by simp [hlt]⟩
    obtain ⟨g, rfl⟩ : ∃ g, da = some ⟨g, 0, none⟩ := by
     rcases HD.out.1.shape with ⟨h1, h2⟩ | ⟨g, cap, h1, _⟩
     ·
      rw [h2] at hy; simp at hy
     ·
      exact ⟨g, (Value.slice.inj h1).1⟩
    have d0 := cellBelow (HD.out.1.cell pairCells_len rfl hy (j := 0) (u := .int .i64 y.1.kind) rfl) S1.below
    have d1 := cellBelow (HD.out.1.cell pairCells_len rfl hy (j := 1) (u := .int .i64 y.1.n) rfl) S1.below
    have d2 := cellBelow (HD.out.1.cell pairCells_len rfl hy (j := 2) (u := .string y.1.s) rfl) S1.below
    rw [Nat.add_zero] at d0
    have HX := Lib.hid (And.intro (hnx y hy) (And.intro hlt hMl))
    have S2 := S1.alloc (.cells #[.int .i64 y.1.kind, .int .i64 y.1.n, .string y.1.s] 24)
    clear S1 hend hnx hlt hMl hM hy
    go_wp2_with (at_builtin; refine wpList_append_sep rfl _ _ rfl S2 1 rfl rfl _ [y.1] rfl (sees_val y.1 (S2.box 0 rfl)) (by have := HX.out.2.2; simp; omega) ?_)
    intro va vc w3 S4
    replace S4 := Lib.hid S4.tail
    clear S2 c5 d0 d1 d2
    go_wp2
    refine ⟨⟨j + 1, by have := HX.out.2.1; omega, by go_num, ?_⟩, by have := HX.out.2.1; simp [intOf]; omega⟩
    rw [HX.out.1]; simpa using S4.out
   ·
    have hltj : ¬ (j : Int) < p.o.pairs.length := by omega
    have hf := hend (by omega)
    have S2 := Lib.hid S1
    have HF2 := Lib.hid hf
    clear S1 hend hnx hlt hMl hM hf
    go_wp2
    go_ret
    exact ⟨_, rfl, by rw [← HF2.out]; exact S2.out⟩
end
section
variable {w W : World} {r : Nat} {H : HeapM} {rows : List RRow} {sa : Option Addr} {sc : Nat}
end
end Go.Proofs.YtijlebhoapdfnaaGreat
/- The reference's heap: drop. -/
namespace Go.Proofs.YtijlebhoapdfnaaGreat
set_option linter.unusedSimpArgs false
open Go.RowKit
set_option linter.unusedVariables false
section
variable {w W : World} {Rs : List Res}
variable {r : Nat} {H : HeapM}
end
end Go.Proofs.YtijlebhoapdfnaaGreat
/- The reference's heap: Free, Sweep. -/
namespace Go.Proofs.YtijlebhoapdfnaaGreat
set_option linter.unusedSimpArgs false
open Go.RowKit
set_option linter.unusedVariables false
theorem HeapM.Good.drop {H : HeapM} {N : Nat} (G : H.Good N) (n : Int) : (H.drop n).Good N := G.filter _ rfl rfl
section
variable {w W : World} {Rs : List Res} {r : Nat} {H : HeapM}
end
section
variable {w W : World} {Rs : List Res} {r : Nat} {H : HeapM}
end
end Go.Proofs.YtijlebhoapdfnaaGreat
/- The reference's heap beside all else: what it tells. -/
namespace Go.Proofs.YtijlebhoapdfnaaGreat
set_option linter.unusedSimpArgs false
open Go.RowKit
set_option linter.unusedVariables false
section
variable {w W : World} {Rs : List Res} {r : Nat} {H : HeapM} {N : Nat}
theorem Sep.yKind (S : Sep w Rs W) (i : Nat) (hi : Rs[i]? = some (refR r H)) (v : V) : Calls Tryz.prog 60 #[.pointer (some ⟨r, 0, none⟩), v.val] W fun e W' => e = .returned (.int .i64 (H.kind v)) ∧ Sep w Rs W' := by
 obtain ⟨F, h1, _⟩ := S.get i hi
 exact (ref_kind W r v h1).mono fun e W' ⟨e1, e2⟩ => ⟨e1, S.later e2⟩
theorem Sep.yName (S : Sep w Rs W) (i : Nat) (hi : Rs[i]? = some (refR r H)) (v : V) : Calls Tryz.prog 74 #[.pointer (some ⟨r, 0, none⟩), v.val] W fun e W' => e = .returned (.string (H.name v)) ∧ Sep w Rs W' := by
 obtain ⟨F, h1, _⟩ := S.get i hi
 exact (ref_name W r v h1).mono fun e W' ⟨e1, e2⟩ => ⟨e1, S.later e2⟩
theorem Sep.yNum (S : Sep w Rs W) (i : Nat) (hi : Rs[i]? = some (refR r H)) (v : V) : Calls Tryz.prog 76 #[.pointer (some ⟨r, 0, none⟩), v.val] W fun e W' => e = .returned (.int .i64 (H.num v)) ∧ Sep w Rs W' := by
 obtain ⟨F, h1, _⟩ := S.get i hi
 exact (ref_num W r v h1).mono fun e W' ⟨e1, e2⟩ => ⟨e1, S.later e2⟩
theorem Sep.yItems (S : Sep w Rs W) (i : Nat) (hi : Rs[i]? = some (refR r H)) (G : H.Good N) (hN : N ≤ 4000000) (v : V) : Calls Tryz.prog 61 #[.pointer (some ⟨r, 0, none⟩), v.val] W fun e W' => ∃ sv, e = .returned sv ∧ Sep w (valsR sv (H.items v) :: Rs) W' := by
 obtain ⟨F, h1, _⟩ := S.get i hi
 have := G.items v
 exact (ref_items W r v h1 (by omega)).mono fun e W' ⟨sv, e1, e2, e3, e4⟩ => ⟨sv, e1, S.addRow e4 e2 e3⟩
theorem Sep.yKeys (S : Sep w Rs W) (i : Nat) (hi : Rs[i]? = some (refR r H)) (G : H.Good N) (hN : N ≤ 4000000) (v : V) : Calls Tryz.prog 71 #[.pointer (some ⟨r, 0, none⟩), v.val] W fun e W' => ∃ sv, e = .returned sv ∧ Sep w (valsR sv ((H.pairs v).map (·.1)) :: Rs) W' := by
 obtain ⟨F, h1, _⟩ := S.get i hi
 obtain ⟨rows, sa, sc, R⟩ := h1.cells
 exact (ref_keys R G hN v).mono fun e W' ⟨sv, e1, e2⟩ => ⟨sv, e1, S.join e2⟩
theorem RefCells.len {w : World} {rows : List RRow} {sa : Option Addr} {sc : Nat} (R : RefCells w r H rows sa sc) (G : H.Good N) (hN : N ≤ 4000000) : rows.length ≤ 4000000 := by
 have h1 : rows.length = H.objs.length := by rw [R.objs]; simp
 have := G.len; omega
theorem Sep.yAll (S : Sep w Rs W) (i : Nat) (hi : Rs[i]? = some (refR r H)) (G : H.Good N) (hN : N ≤ 4000000) : Calls Tryz.prog 70 #[.pointer (some ⟨r, 0, none⟩)] W fun e W' => ∃ sv, e = .returned sv ∧ Sep w (numsR sv (H.objs.map (·.1)) :: Rs) W' := by
 obtain ⟨F, h1, _⟩ := S.get i hi
 obtain ⟨rows, sa, sc, R⟩ := h1.cells
 exact (ref_all R (R.len G hN)).mono fun e W' ⟨sv, e1, e2⟩ => ⟨sv, e1, S.join e2⟩
end
end Go.Proofs.YtijlebhoapdfnaaGreat
/- ch 16: the reference's reads, by what they tell. -/
namespace Go.Proofs.YtijlebhoapdfnaaGreat
set_option linter.unusedSimpArgs false
open Go.RowKit
set_option linter.unusedVariables false
section
variable {w W : World} {Rs : List Res} {h : Nat} {H : HeapM} {N : Nat}
theorem rkind_at (S : Sep w Rs W) (i : Nat) (hi : Rs[i]? = some (refR h H)) (v : V) (k : Int) (hk : H.kind v = k) : Calls Tryz.prog 60 #[.pointer (some ⟨h, 0, none⟩), .agg #[.int .i64 v.kind, .int .i64 v.n, .string v.s]] W fun e W' => e = .returned (.int .i64 k) ∧ Sep w Rs W' := by
 subst hk; exact S.yKind i hi v
theorem rname_at (S : Sep w Rs W) (i : Nat) (hi : Rs[i]? = some (refR h H)) (v : V) (k : ByteArray) (hk : H.name v = k) : Calls Tryz.prog 74 #[.pointer (some ⟨h, 0, none⟩), .agg #[.int .i64 v.kind, .int .i64 v.n, .string v.s]] W fun e W' => e = .returned (.string k) ∧ Sep w Rs W' := by
 subst hk; exact S.yName i hi v
theorem ritems_at (S : Sep w Rs W) (i : Nat) (hi : Rs[i]? = some (refR h H)) (G : H.Good N) (hN : N ≤ 4000000) (v : V) (l : List V) (hl : H.items v = l) : Calls Tryz.prog 61 #[.pointer (some ⟨h, 0, none⟩), .agg #[.int .i64 v.kind, .int .i64 v.n, .string v.s]] W fun e W' => ∃ a c, e = .returned (.slice a l.length c) ∧ Sep w (valsR (.slice a l.length c) l :: Rs) W' := by
 subst hl
 refine (S.yItems i hi G hN v).mono fun e W' ⟨sv, h1, h2⟩ => ?_
 obtain ⟨a, c, rfl⟩ := (h2.row 0 rfl).form
 exact ⟨a, c, h1, h2⟩
theorem rkeys_at (S : Sep w Rs W) (i : Nat) (hi : Rs[i]? = some (refR h H)) (G : H.Good N) (hN : N ≤ 4000000) (v : V) (l : List V) (hl : (H.pairs v).map (·.1) = l) : Calls Tryz.prog 71 #[.pointer (some ⟨h, 0, none⟩), .agg #[.int .i64 v.kind, .int .i64 v.n, .string v.s]] W fun e W' => ∃ a c, e = .returned (.slice a l.length c) ∧ Sep w (valsR (.slice a l.length c) l :: Rs) W' := by
 subst hl
 refine (S.yKeys i hi G hN v).mono fun e W' ⟨sv, h1, h2⟩ => ?_
 obtain ⟨a, c, rfl⟩ := (h2.row 0 rfl).form
 exact ⟨a, c, h1, h2⟩
theorem rget_at (S : Sep w Rs W) (i : Nat) (hi : Rs[i]? = some (refR h H)) (v k y : V) (b : Bool) (hy : (H.get v k).getD V.zero = y) (hr : (H.get v k).isSome = b) : Calls Tryz.prog 81 #[.pointer (some ⟨h, 0, none⟩), .agg #[.int .i64 v.kind, .int .i64 v.n, .string v.s], .agg #[.int .i64 k.kind, .int .i64 k.n, .string k.s]] W fun e W' => e = .returned (.tuple #[.agg #[.int .i64 y.kind, .int .i64 y.n, .string y.s], .bool b]) ∧ Sep w Rs W' := by
 subst hy hr
 obtain ⟨F, h1, _⟩ := S.get i hi
 exact (ref_get W h v k h1).mono fun e W' ⟨e1, e2⟩ => ⟨e1, S.later e2⟩
end
end Go.Proofs.YtijlebhoapdfnaaGreat
set_option maxRecDepth 100000
set_option maxHeartbeats 12800000
namespace Go.Proofs.YtijlebhoapdfnaaGreat
set_option linter.unusedSimpArgs false
open Go.RowKit
set_option linter.unusedVariables false
section
variable {w W : World} {Rs : List Res} {h y : Nat} {H : HeapM} {N : Nat}
theorem same_nums (S : Sep w Rs W) {v u : Value} {l m : List Int} (i j : Nat) (hi : Rs[i]? = some (numsR v l)) (hj : Rs[j]? = some (numsR u m)) (hl : ∀ n ∈ l, okI n) (hm : ∀ n ∈ m, okI n) :
  Calls Tryz.prog 68 #[v, u] W fun e W' => e = .returned (.bool (decide (l = m))) ∧ Sep w Rs W' :=
 (same_numbers W v u l m (SeesN.of_slIs (S.row i hi)) (SeesN.of_slIs (S.row j hj)) ⟨hl, hm⟩).mono fun e W' ⟨x, q, hq⟩ => ⟨x, by rw [hq]; exact S.drewN q⟩
attribute [local irreducible] wpSeqS wpAnyS wpPreS
theorem alike16_ok (S : Sep w (heapR h H :: refR y H :: Rs) W) (F : H.Fit N) (hN : N ≤ 1000000) : Calls Tryz.prog 16 #[.pointer (some ⟨h, 0, none⟩), .pointer (some ⟨y, 0, none⟩)] W fun e W' => e = .returned (.bool true) ∧ Sep w (heapR h H :: refR y H :: Rs) W' := by
 have HF := Lib.hid (And.intro F hN)
 have hol : H.objs.length ≤ 1000000 := by have := F.G.len; omega
 have holi : (H.objs.length : Int) ≤ 1000000 := by omega
 have C1 := Lib.hid (S.all 0 rfl F.G (by omega))
 clear S F hN
 go_enter Tryz.func16, Tryz.ntmps16
 go_wp2_with fail
 refine C1.out.mono ?_
 rintro e w1 ⟨av, rfl, S1, -⟩
 obtain ⟨aa, ac, rfl⟩ := (S1.row 0 rfl).form
 have C2 := Lib.hid (S1.yAll 2 rfl HF.out.1.G (by have := HF.out.2; omega))
 have hko : ∀ n ∈ H.objs.map (·.1), okI n := (HeapM.keys_nums HF.out.1.G).ok HF.out.1.G (by have := HF.out.2; omega)
 obtain ⟨KL, hKL⟩ : ∃ gx_, (H.objs.map (·.1)) = gx_ := ⟨_, rfl⟩
 rw [hKL] at S1 C2 hko ⊢
 have HKO := Lib.hid hko
 clear C1 S1 hko hKL
 go_wp2_with fail
 refine C2.out.mono ?_
 rintro e w2 ⟨bv, rfl, S2⟩
 obtain ⟨ba, bc, rfl⟩ := (S2.row 0 rfl).form
 have C3 := same_nums S2 1 0 rfl rfl HKO.out HKO.out
 rw [show decide (KL = KL) = true by simp] at C3
 replace C3 := Lib.hid C3
 clear C2 S2
 go_wp2_with fail
 refine C3.out.mono ?_
 rintro e w3 ⟨rfl, S3⟩
 have S := Lib.hid (S3.tail.tail)
 clear C3 S3
 go_wp2
 go_loopw [5] (fun iv wr => ∃ k : Nat, k ≤ H.objs.length ∧ iv = .int .i64 k ∧ Sep w ([heapR h H, refR y H] ++ Rs) wr) (fun iv _ => H.objs.length - (intOf iv).toNat)
 case atStart => exact ⟨0, by omega, rfl, S.out⟩
 case round =>
  clear S
  obtain ⟨k, hk, rfl, S⟩ := hrel
  obtain ⟨F0, h1, _⟩ := S.get 1 rfl
  obtain ⟨rows, sa, sc, R⟩ := h1.cells
  have hrl : rows.length = H.objs.length := by rw [R.objs]; simp
  have c0 := R.head
  rw [hrl] at c0
  by_cases hlt : k < H.objs.length
  ·
   have hlti : (k : Int) < H.objs.length := by omega
   obtain ⟨x, hx⟩ : ∃ x, rows[k]? = some x := ⟨rows[k]'(by omega), by simp⟩
   obtain ⟨g, rfl, e0, hat⟩ := R.row k x hx
   have e1 := cellAt hat.1 0 (v := .int .i64 x.n) rfl
   have hm : x.n ∈ H.objs.map (·.1) := by rw [R.objs, List.map_map]; exact List.mem_map.2 ⟨x, List.mem_of_getElem? hx, rfl⟩
   have hkn : okI x.n := (HeapM.keys_nums HF.out.1.G).ok HF.out.1.G (by have := HF.out.2; omega) _ hm
   obtain ⟨v, hv⟩ : ∃ v, v = V.ref x.n hkn := ⟨_, rfl⟩
   have hv4 : v.kind = 4 := by rw [hv]; rfl
   have hvs : v.s = ⟨#[]⟩ := by rw [hv]; rfl
   have hvn : x.n = v.n := by rw [hv]; rfl
   rw [hvn] at e1
   have M := Lib.hid (lref_v wr v hv4 hvs)
   have HLT := Lib.hid hlt
   clear hx hat hm hlt h1 R hrl hkn hv hv4 hvs hvn
   replace S := Lib.hid S
   go_wp2_with fail
   refine M.out.mono ?_
   rintro e w18 ⟨rfl, b18⟩
   replace S := S.out.later b18
   clear M b18 c0 e0 e1
   replace S : Sep w (heapR h H :: refR y H :: Rs) _ := S
   obtain ⟨vb, hvb⟩ : ∃ gx_, (w18.heap.size) = gx_ := ⟨_, rfl⟩
   replace S := (S.alloc (.cells #[.int .i64 v.kind, .int .i64 v.n, .string v.s] 24))
   simp only [World.size_alloc, hvb] at S
   replace S : Sep w (boxV vb v :: heapR h H :: refR y H :: Rs) _ := S
   obtain ⟨kd, hkd⟩ : ∃ z, H.kind v = z := ⟨_, rfl⟩
   have Hkd_ := Lib.hid hkd
   clear hkd
   obtain ⟨st, hst⟩ : ∃ z, H.name v = z := ⟨_, rfl⟩
   have Hst_ := Lib.hid hst
   clear hst
   obtain ⟨nm, hnm⟩ : ∃ z, H.num v = z := ⟨_, rfl⟩
   have Hnm_ := Lib.hid hnm
   clear hnm
   obtain ⟨IS, hIS⟩ : ∃ z, H.items v = z := ⟨_, rfl⟩
   have HIS_ := Lib.hid hIS
   clear hIS
   obtain ⟨KL, hKL⟩ : ∃ z, (H.pairs v).map (·.1) = z := ⟨_, rfl⟩
   have HKL_ := Lib.hid hKL
   clear hKL
   have hN4 : N ≤ 4000000 := by have := HF.out.2; omega
   have HN4 := Lib.hid hN4
   clear hN4
   refine named (boxV vb v :: heapR h H :: refR y H :: Rs : List Res) fun b7_20 hb7_20 => ?_
   have Hb7_20 := Lib.hid hb7_20
   have Kb7_20 : Hid (∀ W (Q : List Res), Sep w (Q ++ b7_20) W → True) := Lib.hid fun W Q T => by
    rw [hb7_20] at T
    trivial
   have Cb7_20_0 := baseC3 (w := w) (b := vb) hb7_20 0 rfl
   have KI7_2 : Hid (∀ W (Q : List Res), Sep w (Q ++ b7_20) W → Calls Tryz.prog 71 #[.pointer (some ⟨y, 0, none⟩), .agg #[.int .i64 v.kind, .int .i64 v.n, .string v.s]] W fun e W' => ∃ a c, e = .returned (.slice a KL.length c) ∧ Sep w (valsR (.slice a KL.length c) KL :: (Q ++ b7_20)) W') := Lib.hid fun W Q T => by
    rw [Hb7_20.out] at T ⊢
    exact rkeys_at T (Q.length + 2) (atR rfl) HF.out.1.G HN4.out v KL HKL_.out
   replace S := Lib.hid S
   clear hb7_20
   go_upto_region 7 with fail
   try simp only [hvb]
   have S1 : Sep w ([] ++ b7_20) ((w18.alloc (.cells #[.int .i64 v.kind, .int .i64 v.n, .string v.s] 24))) := by rw [Hb7_20.out]; exact S.out
   clear S
   refine regionL (E := [emptyR]) (base := b7_20) (Sep.putE S1) ?_
   clear S1
   refine qa ?_
   refine qc Cb7_20_0 ?_
   refine stepL (fun v E1 => ∃ (va_22_1 : Option Addr) (vc_22_1 : Nat), v = .slice va_22_1 KL.length vc_22_1 ∧ E1 = [valsR (.slice va_22_1 KL.length vc_22_1) KL]) (h1 := fun Wx hSw => by (go_simp; refine symCallN ?_; exact (KI7_2.out _ _ hSw).mono fun e W' ⟨a, c, e1, e2⟩ => ⟨_, _, e1, ⟨a, c, rfl, rfl⟩, e2.into 0 rfl⟩)) (h2 := fun v E1 hvE => ?_)
   obtain ⟨va_22_1, vc_22_1, rfl, rfl⟩ := hvE; simp only [Act.put, pa]; try dsimp only [List.set]
   refine qa ?_
   refine doneL (h := fun w22 S => ?_)
   replace S : Sep w (valsR (.slice va_22_1 KL.length vc_22_1) KL :: boxV vb v :: heapR h H :: refR y H :: Rs) w22 := by rw [Hb7_20.out] at S; exact S
   clear Hb7_20 Kb7_20 KI7_2 Cb7_20_0
   refine named (valsR (.slice va_22_1 KL.length vc_22_1) KL :: boxV vb v :: heapR h H :: refR y H :: Rs : List Res) fun b8_22 hb8_22 => ?_
   have Hb8_22 := Lib.hid hb8_22
   have Kb8_22 : Hid (∀ W (Q : List Res), Sep w (Q ++ b8_22) W → True) := Lib.hid fun W Q T => by
    rw [hb8_22] at T
    trivial
   have Cb8_22_0 := baseC3 (w := w) (b := vb) hb8_22 1 rfl
   have K8_2 : QuietC w b8_22 72 #[hpV h, agV v] (.int .i64 kd) := Lib.hid fun W Q T => by
    rw [Hb8_22.out] at T ⊢
    exact kind_at T (Q.length + 2) (atR rfl) v kd Hkd_.out
   have K8_5 : QuietC w b8_22 60 #[.pointer (some ⟨y, 0, none⟩), agV v] (.int .i64 kd) := Lib.hid fun W Q T => by
    rw [Hb8_22.out] at T ⊢
    exact rkind_at T (Q.length + 3) (atR rfl) v kd Hkd_.out
   have K8_10 : QuietC w b8_22 73 #[hpV h, agV v] (.string st) := Lib.hid fun W Q T => by
    rw [Hb8_22.out] at T ⊢
    exact (T.name (Q.length + 2) (atR rfl) v).mono fun e W' ⟨e1, e2, _⟩ => ⟨by rw [e1, Hst_.out], e2⟩
   have K8_13 : QuietC w b8_22 74 #[.pointer (some ⟨y, 0, none⟩), agV v] (.string st) := Lib.hid fun W Q T => by
    rw [Hb8_22.out] at T ⊢
    exact rname_at T (Q.length + 3) (atR rfl) v st Hst_.out
   have K8_19 : QuietC w b8_22 75 #[hpV h, agV v] (.int .i64 nm) := Lib.hid fun W Q T => by
    rw [Hb8_22.out] at T ⊢
    exact (T.num (Q.length + 2) (atR rfl) v).mono fun e W' ⟨e1, e2, _⟩ => ⟨by rw [e1, Hnm_.out], e2⟩
   have K8_22 : QuietC w b8_22 76 #[.pointer (some ⟨y, 0, none⟩), agV v] (.int .i64 nm) := Lib.hid fun W Q T => by
    rw [Hb8_22.out] at T ⊢
    exact (T.yNum (Q.length + 3) (atR rfl) v).mono fun e W' ⟨e1, e2⟩ => ⟨by rw [e1, Hnm_.out], e2⟩
   have KI8_28 : Hid (∀ W (Q : List Res), Sep w (Q ++ b8_22) W → Calls Tryz.prog 78 #[.pointer (some ⟨h, 0, none⟩), .agg #[.int .i64 v.kind, .int .i64 v.n, .string v.s]] W fun e W' => ∃ a c, e = .returned (.slice a IS.length c) ∧ Sep w (valsR (.slice a IS.length c) IS :: (Q ++ b8_22)) W') := Lib.hid fun W Q T => by
    rw [Hb8_22.out] at T ⊢
    exact items_at T (Q.length + 2) (atR rfl) HF.out.1.G HN4.out v IS HIS_.out
   have KI8_31 : Hid (∀ W (Q : List Res), Sep w (Q ++ b8_22) W → Calls Tryz.prog 61 #[.pointer (some ⟨y, 0, none⟩), .agg #[.int .i64 v.kind, .int .i64 v.n, .string v.s]] W fun e W' => ∃ a c, e = .returned (.slice a IS.length c) ∧ Sep w (valsR (.slice a IS.length c) IS :: (Q ++ b8_22)) W') := Lib.hid fun W Q T => by
    rw [Hb8_22.out] at T ⊢
    exact ritems_at T (Q.length + 3) (atR rfl) HF.out.1.G HN4.out v IS HIS_.out
   have KI8_38 : Hid (∀ W (Q : List Res), Sep w (Q ++ b8_22) W → Calls Tryz.prog 79 #[.pointer (some ⟨h, 0, none⟩), .agg #[.int .i64 v.kind, .int .i64 v.n, .string v.s]] W fun e W' => ∃ a c, e = .returned (.slice a KL.length c) ∧ Sep w (valsR (.slice a KL.length c) KL :: (Q ++ b8_22)) W') := Lib.hid fun W Q T => by
    rw [Hb8_22.out] at T ⊢
    exact keys_at T (Q.length + 2) (atR rfl) v KL HKL_.out
   have KK : Hid (∀ W (Q : List Res), Sep w (Q ++ b8_22) W → SeesV W (.slice va_22_1 KL.length vc_22_1) KL) := Lib.hid fun W Q T => by rw [Hb8_22.out] at T; exact T.seesV (Q.length + 0) (atR rfl)
   replace S := Lib.hid S
   clear hb8_22
   go_upto_region 8 with fail
   have S1 : Sep w ([] ++ b8_22) (w22) := by rw [Hb8_22.out]; exact S.out
   clear S
   refine regionP 28 15 (E := [emptyR, emptyR, emptyR]) (base := b8_22) (Sep.putE (Sep.putE (Sep.putE S1))) ?_
   clear S1
   refine qp ?_
   refine qpc Cb8_22_0 ?_
   refine qpk K8_2 ?_
   refine qp ?_
   refine qpc Cb8_22_0 ?_
   refine qpk K8_5 ?_
   iterate 3 refine qp ?_
   refine qpc Cb8_22_0 ?_
   refine qpk K8_10 ?_
   refine qp ?_
   refine qpc Cb8_22_0 ?_
   refine qpk K8_13 ?_
   iterate 4 refine qp ?_
   refine qpc Cb8_22_0 ?_
   refine qpk K8_19 ?_
   refine qp ?_
   refine qpc Cb8_22_0 ?_
   refine qpk K8_22 ?_
   iterate 4 refine qp ?_
   refine qpc Cb8_22_0 ?_
   refine endP ?_
   refine qs 29 ?_
   refine qsc 30 Cb8_22_0 ?_
   refine readyS [28] ?_
   refine stepS (fun v E1 => ∃ (va_24_1 : Option Addr) (vc_24_1 : Nat), v = .slice va_24_1 IS.length vc_24_1 ∧ E1 = [valsR (.slice va_24_1 IS.length vc_24_1) IS, emptyR, emptyR]) (h1 := fun Wx hSw => by (go_simp; refine symCallN ?_; exact (KI8_28.out _ _ hSw).mono fun e W' ⟨a, c, e1, e2⟩ => ⟨_, _, e1, ⟨a, c, rfl, rfl⟩, e2.into 0 rfl⟩)) (h2 := fun v E1 hvE => ?_) (hs := nilS)
   obtain ⟨va_24_1, vc_24_1, rfl, rfl⟩ := hvE; simp only [Act.put, pa]; try dsimp only [List.set]
   refine readyS [31] ?_
   refine stepS (fun v E1 => ∃ (va_24_2 : Option Addr) (vc_24_2 : Nat), v = .slice va_24_2 IS.length vc_24_2 ∧ E1 = [valsR (.slice va_24_1 IS.length vc_24_1) IS, valsR (.slice va_24_2 IS.length vc_24_2) IS, emptyR]) (h1 := fun Wx hSw => by (go_simp; refine symCallN ?_; exact (KI8_31.out _ _ hSw).mono fun e W' ⟨a, c, e1, e2⟩ => ⟨_, _, e1, ⟨a, c, rfl, rfl⟩, e2.into 1 rfl⟩)) (h2 := fun v E1 hvE => ?_) (hs := nilS)
   obtain ⟨va_24_2, vc_24_2, rfl, rfl⟩ := hvE; simp only [Act.put, pa]; try dsimp only [List.set]
   refine readyS [32] ?_
   refine detS (.bool true) [valsR (.slice va_24_1 IS.length vc_24_1) IS, valsR (.slice va_24_2 IS.length vc_24_2) IS, emptyR] (h1 := fun Wx hSw => by (go_simp; refine symCall ?_; exact same_at hSw (hSw.seesV 0 rfl) (hSw.seesV 1 rfl) rfl)) (h2 := ?_) (hs := nilS); simp only [Act.put, pa]; try dsimp only [List.set]
   refine qs 33 ?_
   refine qs 34 ?_
   refine qs 35 ?_
   refine qs 36 ?_
   refine qsc 37 Cb8_22_0 ?_
   refine qs 39 ?_
   refine readyS [38] ?_
   refine stepS (fun v E1 => ∃ (va_24_4 : Option Addr) (vc_24_4 : Nat), v = .slice va_24_4 KL.length vc_24_4 ∧ E1 = [valsR (.slice va_24_1 IS.length vc_24_1) IS, valsR (.slice va_24_2 IS.length vc_24_2) IS, valsR (.slice va_24_4 KL.length vc_24_4) KL]) (h1 := fun Wx hSw => by (go_simp; refine symCallN ?_; exact (KI8_38.out _ _ hSw).mono fun e W' ⟨a, c, e1, e2⟩ => ⟨_, _, e1, ⟨a, c, rfl, rfl⟩, e2.into 2 rfl⟩)) (h2 := fun v E1 hvE => ?_) (hs := nilS)
   obtain ⟨va_24_4, vc_24_4, rfl, rfl⟩ := hvE; simp only [Act.put, pa]; try dsimp only [List.set]
   refine readyS [40] ?_
   refine detS (.bool true) [valsR (.slice va_24_1 IS.length vc_24_1) IS, valsR (.slice va_24_2 IS.length vc_24_2) IS, valsR (.slice va_24_4 KL.length vc_24_4) KL] (h1 := fun Wx hSw => by (go_simp; refine symCall ?_; exact same_at hSw (hSw.seesV 2 rfl) (KK.out _ _ hSw) rfl)) (h2 := ?_) (hs := nilS); simp only [Act.put, pa]; try dsimp only [List.set]
   refine qs 41 ?_
   refine qs 42 ?_
   refine doneS (h := fun w24 S => ?_)
   replace S : Sep w (valsR (.slice va_24_1 IS.length vc_24_1) IS :: valsR (.slice va_24_2 IS.length vc_24_2) IS :: valsR (.slice va_24_4 KL.length vc_24_4) KL :: valsR (.slice va_22_1 KL.length vc_22_1) KL :: boxV vb v :: heapR h H :: refR y H :: Rs) w24 := by rw [Hb8_22.out] at S; exact S
   clear Hb8_22 Kb8_22 K8_2 K8_5 K8_10 K8_13 K8_19 K8_22 KI8_28 KI8_31 KI8_38 KK Cb8_22_0
   replace S : Sep w ([valsR (.slice va_24_1 IS.length vc_24_1) IS, valsR (.slice va_24_2 IS.length vc_24_2) IS, valsR (.slice va_24_4 KL.length vc_24_4) KL, valsR (.slice va_22_1 KL.length vc_22_1) KL, boxV vb v, heapR h H, refR y H] ++ Rs) (w24) := by
    refine (show Sep w ([valsR (.slice va_24_1 IS.length vc_24_1) IS, valsR (.slice va_24_2 IS.length vc_24_2) IS, valsR (.slice va_24_4 KL.length vc_24_4) KL, valsR (.slice va_22_1 KL.length vc_22_1) KL, boxV vb v, heapR h H, refR y H] ++ Rs) _ from S).perm ?_
    exact List.Perm.append_right Rs (perm_of (l := [valsR (.slice va_24_1 IS.length vc_24_1) IS, valsR (.slice va_24_2 IS.length vc_24_2) IS, valsR (.slice va_24_4 KL.length vc_24_4) KL, valsR (.slice va_22_1 KL.length vc_22_1) KL, boxV vb v, heapR h H, refR y H]) [0, 1, 2, 3, 4, 5, 6] (by show (List.range' 0 7).Perm [0, 1, 2, 3, 4, 5, 6]; decide) (by rfl))
   iterate 3 replace S := S.tail
   replace S : Sep w (valsR (.slice va_22_1 KL.length vc_22_1) KL :: boxV vb v :: heapR h H :: refR y H :: Rs) (w24) := S
   replace S := Lib.hid S
   go_wp2
   have hkl : (KL.length : Int) ≤ 9223372036854775807 := by obtain ⟨_, _, e0, p1, p2, _⟩ := (S.out.row 0 rfl).sees'; cases e0; unfold maxLen at p2; omega
   go_loopw [8] (fun s8 wr => ∃ j : Nat, j ≤ KL.length ∧ s8 = .int .i64 j ∧ Sep w ([valsR (.slice va_22_1 KL.length vc_22_1) KL, boxV vb v, heapR h H, refR y H] ++ Rs) wr) (fun s8 _ => KL.length - (intOf s8).toNat)
   case atStart => exact ⟨0, Nat.zero_le _, rfl, S.out⟩
   case round =>
    clear S
    obtain ⟨j, hj, rfl, S⟩ := hrel
    by_cases hlt : j < KL.length
    ·
     have hjlt : (j : Int) < KL.length := by omega
     obtain ⟨q, hq⟩ : ∃ q, KL[j]? = some q := ⟨KL[j], by simp [hlt]⟩
     obtain ⟨gk, ok, rfl⟩ := (Sep.seesV S 0 rfl).some_at (by omega)
     have HQ := Lib.hid hq
     have HJ := Lib.hid hlt
     obtain ⟨z, hz⟩ : ∃ z, (H.get v q).getD V.zero = z := ⟨_, rfl⟩
     obtain ⟨br, hbr⟩ : ∃ z, (H.get v q).isSome = z := ⟨_, rfl⟩
     have HZ := Lib.hid (And.intro hz hbr)
     clear hq hlt hj hz hbr
     replace S : Sep w (valsR (.slice (some ⟨gk, ok, none⟩) KL.length vc_22_1) KL :: boxV vb v :: heapR h H :: refR y H :: Rs) _ := S
     refine named (valsR (.slice (some ⟨gk, ok, none⟩) KL.length vc_22_1) KL :: boxV vb v :: heapR h H :: refR y H :: Rs : List Res) fun b13_200 hb13_200 => ?_
     have Hb13_200 := Lib.hid hb13_200
     have Kb13_200 : Hid (∀ W (Q : List Res), Sep w (Q ++ b13_200) W → True) := Lib.hid fun W Q T => by
      rw [hb13_200] at T
      trivial
     have Cb13_200_0 := baseC3 (w := w) (b := vb) hb13_200 1 rfl
     have K13_6 : QuietC w b13_200 80 #[hpV h, agV v, agV q] (.tuple #[.agg #[.int .i64 z.kind, .int .i64 z.n, .string z.s], .bool br]) := Lib.hid fun W Q T => by
      rw [Hb13_200.out] at T ⊢
      exact get_at T (Q.length + 2) (atR rfl) v q z br HZ.out.1 HZ.out.2
     have R13_5 : Hid (∀ W (Q : List Res), Sep w (Q ++ b13_200) W → W.cell? ⟨gk, ok + j * 3, none⟩ = some (.int .i64 q.kind) ∧ W.cell? ⟨gk, ok + j * 3 + 1, none⟩ = some (.int .i64 q.n) ∧ W.cell? ⟨gk, ok + j * 3 + 2, none⟩ = some (.string q.s)) := Lib.hid fun W Q T => by rw [Hb13_200.out] at T; exact sepThree T (Q.length + 0) (atR rfl) HQ.out
     replace S := Lib.hid S
     clear hb13_200
     go_upto_region 13 with fail
     have S1 : Sep w ([] ++ b13_200) (wr) := by rw [Hb13_200.out]; exact S.out
     clear S
     refine regionP 10 3 (E := [emptyR]) (base := b13_200) (Sep.putE S1) ?_
     clear S1
     refine qp ?_
     refine qpc Cb13_200_0 ?_
     iterate 3 refine qp ?_
     refine qpc R13_5 ?_
     refine qpk K13_6 ?_
     iterate 3 refine qp ?_
     refine endP ?_
     refine readyS [10] ?_
     refine allocS 0 rfl (fun q => .pointer (some ⟨q, 0, none⟩)) (.cells #[.int .i64 0, .int .i64 0, .string ⟨#[]⟩] 24) (h1 := fun Wx => by go_simp) (h2 := fun qa91 => ?_) (hs := nilS); simp only [Act.put, pa]; try dsimp only [List.set]
     try simp only [List.set_cons_zero, List.set_cons_succ]
     refine readyS [11] ?_
     refine detS undef [boxV qa91 z] (h1 := fun Wx hSw => by (have hz := hSw.box (b := qa91) (o := objZ) 0 rfl; refine useZ3 hz fun z0 z1 z2 y0 y1 y2 => ?_; go_simp; exact ⟨rfl, hSw.set3 0 rfl (.int .i64 z.kind) (.int .i64 z.n) (.string z.s)⟩)) (h2 := ?_) (hs := nilS); simp only [Act.put, pa]; try dsimp only [List.set]
     refine qs 12 ?_
     refine doneS (h := fun w202 S => ?_)
     replace S : Sep w (boxV qa91 z :: valsR (.slice (some ⟨gk, ok, none⟩) KL.length vc_22_1) KL :: boxV vb v :: heapR h H :: refR y H :: Rs) w202 := by rw [Hb13_200.out] at S; exact S
     clear Hb13_200 Kb13_200 K13_6 R13_5 Cb13_200_0
     refine named (boxV qa91 z :: valsR (.slice (some ⟨gk, ok, none⟩) KL.length vc_22_1) KL :: boxV vb v :: heapR h H :: refR y H :: Rs : List Res) fun b14_202 hb14_202 => ?_
     have Hb14_202 := Lib.hid hb14_202
     have Kb14_202 : Hid (∀ W (Q : List Res), Sep w (Q ++ b14_202) W → True) := Lib.hid fun W Q T => by
      rw [hb14_202] at T
      trivial
     have Cb14_202_0 := baseC3 (w := w) (b := vb) hb14_202 2 rfl
     have K14_6 : QuietC w b14_202 81 #[.pointer (some ⟨y, 0, none⟩), agV v, agV q] (.tuple #[.agg #[.int .i64 z.kind, .int .i64 z.n, .string z.s], .bool br]) := Lib.hid fun W Q T => by
      rw [Hb14_202.out] at T ⊢
      exact rget_at T (Q.length + 4) (atR rfl) v q z br HZ.out.1 HZ.out.2
     have R14_5 : Hid (∀ W (Q : List Res), Sep w (Q ++ b14_202) W → W.cell? ⟨gk, ok + j * 3, none⟩ = some (.int .i64 q.kind) ∧ W.cell? ⟨gk, ok + j * 3 + 1, none⟩ = some (.int .i64 q.n) ∧ W.cell? ⟨gk, ok + j * 3 + 2, none⟩ = some (.string q.s)) := Lib.hid fun W Q T => by rw [Hb14_202.out] at T; exact sepThree T (Q.length + 1) (atR rfl) HQ.out
     replace S := Lib.hid S
     clear hb14_202
     go_upto_region 14 with fail
     have S1 : Sep w ([] ++ b14_202) (w202) := by rw [Hb14_202.out]; exact S.out
     clear S
     refine regionP 10 3 (E := [emptyR]) (base := b14_202) (Sep.putE S1) ?_
     clear S1
     refine qp ?_
     refine qpc Cb14_202_0 ?_
     iterate 3 refine qp ?_
     refine qpc R14_5 ?_
     refine qpk K14_6 ?_
     iterate 3 refine qp ?_
     refine endP ?_
     refine readyS [10] ?_
     refine allocS 0 rfl (fun q => .pointer (some ⟨q, 0, none⟩)) (.cells #[.int .i64 0, .int .i64 0, .string ⟨#[]⟩] 24) (h1 := fun Wx => by go_simp) (h2 := fun qa111 => ?_) (hs := nilS); simp only [Act.put, pa]; try dsimp only [List.set]
     try simp only [List.set_cons_zero, List.set_cons_succ]
     refine readyS [11] ?_
     refine detS undef [boxV qa111 z] (h1 := fun Wx hSw => by (have hz := hSw.box (b := qa111) (o := objZ) 0 rfl; refine useZ3 hz fun z0 z1 z2 y0 y1 y2 => ?_; go_simp; exact ⟨rfl, hSw.set3 0 rfl (.int .i64 z.kind) (.int .i64 z.n) (.string z.s)⟩)) (h2 := ?_) (hs := nilS); simp only [Act.put, pa]; try dsimp only [List.set]
     refine qs 12 ?_
     refine doneS (h := fun w204 S => ?_)
     replace S : Sep w (boxV qa111 z :: boxV qa91 z :: valsR (.slice (some ⟨gk, ok, none⟩) KL.length vc_22_1) KL :: boxV vb v :: heapR h H :: refR y H :: Rs) w204 := by rw [Hb14_202.out] at S; exact S
     clear Hb14_202 Kb14_202 K14_6 R14_5 Cb14_202_0
     refine named (boxV qa111 z :: boxV qa91 z :: valsR (.slice (some ⟨gk, ok, none⟩) KL.length vc_22_1) KL :: boxV vb v :: heapR h H :: refR y H :: Rs : List Res) fun b15_204 hb15_204 => ?_
     have Hb15_204 := Lib.hid hb15_204
     have Kb15_204 : Hid (∀ W (Q : List Res), Sep w (Q ++ b15_204) W → True) := Lib.hid fun W Q T => by
      rw [hb15_204] at T
      trivial
     have Cb15_204_0 := baseC3 (w := w) (b := qa111) hb15_204 0 rfl
     have Cb15_204_1 := baseC3 (w := w) (b := qa91) hb15_204 1 rfl
     replace S := Lib.hid S
     clear hb15_204
     go_upto_region 15 with fail
     have S1 : Sep w ([] ++ b15_204) (w204) := by rw [Hb15_204.out]; exact S.out
     clear S
     refine regionL (E := []) (base := b15_204) S1 ?_
     clear S1
     refine qc Cb15_204_1 ?_
     refine qc Cb15_204_0 ?_
     refine qa ?_
     refine doneL (h := fun w206 S => ?_)
     replace S : Sep w (boxV qa111 z :: boxV qa91 z :: valsR (.slice (some ⟨gk, ok, none⟩) KL.length vc_22_1) KL :: boxV vb v :: heapR h H :: refR y H :: Rs) w206 := by rw [Hb15_204.out] at S; exact S
     clear Hb15_204 Kb15_204 Cb15_204_0 Cb15_204_1
     replace S : Sep w ([boxV qa111 z, boxV qa91 z, valsR (.slice (some ⟨gk, ok, none⟩) KL.length vc_22_1) KL, boxV vb v, heapR h H, refR y H] ++ Rs) (w206) := by
      refine (show Sep w ([boxV qa111 z, boxV qa91 z, valsR (.slice (some ⟨gk, ok, none⟩) KL.length vc_22_1) KL, boxV vb v, heapR h H, refR y H] ++ Rs) _ from S).perm ?_
      exact List.Perm.append_right Rs (perm_of (l := [boxV qa111 z, boxV qa91 z, valsR (.slice (some ⟨gk, ok, none⟩) KL.length vc_22_1) KL, boxV vb v, heapR h H, refR y H]) [0, 1, 2, 3, 4, 5] (by show (List.range' 0 6).Perm [0, 1, 2, 3, 4, 5]; decide) (by rfl))
     iterate 2 replace S := S.tail
     replace S : Sep w (valsR (.slice (some ⟨gk, ok, none⟩) KL.length vc_22_1) KL :: boxV vb v :: heapR h H :: refR y H :: Rs) (w206) := S
     replace S := Lib.hid S
     have hi1 : IntKind.i64.wrap ((j : Int) + 1) = (j : Int) + 1 := IntWalk.i64_in _ (by omega)
     go_wp2
     exact ⟨⟨j + 1, HJ.out, by go_num, S.out⟩, by have := HJ.out; simp [intOf]; omega⟩
    ·
     obtain rfl : j = KL.length := by omega
     have hno : ¬ ((KL.length : Int) < KL.length) := by omega
     have T := Lib.hid (show Sep w ([heapR h H, refR y H] ++ Rs) wr from S.tail.tail)
     clear S hlt hj
     have hi1 : IntKind.i64.wrap ((k : Int) + 1) = (k : Int) + 1 := IntWalk.i64_in _ (by omega)
     go_wp2
     exact ⟨⟨k + 1, HLT.out, by go_num, T.out⟩, by have := HLT.out; simp [intOf]; omega⟩
  ·
   have hlti : ¬ (k : Int) < H.objs.length := by omega
   have S5 := Lib.hid S
   clear S R h1 hrl hlt
   go_wp2
   go_ret
   exact ⟨rfl, S5.out⟩
theorem erase_q {α : Type} {l : List α} {i j : Nat} {a : α} (hne : i ≠ j) (hj : l[j]? = some a) : ∃ k : Nat, (l.eraseIdx i)[k]? = some a := by
 rcases Nat.lt_or_gt_of_ne hne with h | h
 ·
  refine ⟨j - 1, ?_⟩
  rw [List.getElem?_eraseIdx, if_neg (by omega), show j - 1 + 1 = j by omega]; exact hj
 ·
  refine ⟨j, ?_⟩
  rw [List.getElem?_eraseIdx, if_pos (by omega)]; exact hj
theorem alike16_at (S : Sep w Rs W) (i j : Nat) (hi : Rs[i]? = some (heapR h H)) (hj : Rs[j]? = some (refR y H)) (hne : i ≠ j) (F : H.Fit N) (hN : N ≤ 1000000) : Calls Tryz.prog 16 #[.pointer (some ⟨h, 0, none⟩), .pointer (some ⟨y, 0, none⟩)] W fun e W' => e = .returned (.bool true) ∧ Sep w Rs W' := by
 obtain ⟨k, hk⟩ := erase_q hne hj
 have p1 : Rs.Perm (heapR h H :: refR y H :: (Rs.eraseIdx i).eraseIdx k) := (perm_pull hi).trans (List.Perm.cons _ (perm_pull hk))
 exact (alike16_ok (S.perm p1) F hN).mono fun e W' ⟨e1, e2⟩ => ⟨e1, e2.perm p1.symm⟩
end
end Go.Proofs.YtijlebhoapdfnaaGreat
