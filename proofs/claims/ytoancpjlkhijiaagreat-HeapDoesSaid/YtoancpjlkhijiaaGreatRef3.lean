/- The reference's heap: All, Live, Keys, holds, Refs, Count. -/
import Derived.Test.YtoancpjlkhijiaaGreatRef2
namespace Go.Proofs.YtoancpjlkhijiaaGreat
set_option linter.unusedSimpArgs false
open Go.RowKit
set_option linter.unusedVariables false
/-- What a heap of the reference shows, cell by cell. -/
structure RefCells (w : World) (r : Nat) (H : HeapM) (rows : List RRow) (sa : Option Addr) (sc : Nat) : Prop where
  head : w.cell? ⟨r, 0, none⟩ = some (.slice sa rows.length sc)
  objs : H.objs = rows.map (fun p => (p.n, p.o))
  row : ∀ (k : Nat) (p : RRow), rows[k]? = some p → ∃ g, sa = some ⟨g, 0, none⟩ ∧ w.cell? ⟨g, k, none⟩ = some (.pointer (some ⟨p.b, 0, none⟩)) ∧ p.At w
  of_ : ∀ (v : V) (W : World), Below w.heap.size w W → Calls Tryz.prog 65 #[.pointer (some ⟨r, 0, none⟩), v.val] W fun e w' => e = .returned (.pointer ((ofR rows v).map fun p => ⟨p.b, 0, none⟩)) ∧ Below W.heap.size W w'
theorem RefIs.cells {w : World} {r : Nat} {H : HeapM} {F : List Nat} (R : RefIs w r H F) : ∃ rows sa sc, RefCells w r H rows sa sc := by
  obtain ⟨rows, sv, h1, h2, h3, h4, -⟩ := R
  have ho := fun v W hb => ref_of_at h1 h2 h3 v W hb
  obtain ⟨sa, sc, rfl⟩ := h2.form
  refine ⟨rows, sa, sc, cellAt h1 0 rfl, h4, fun k p hp => ?_, ho⟩
  obtain ⟨g, rfl⟩ : ∃ g, sa = some ⟨g, 0, none⟩ := by
    rcases h2.shape with ⟨h1, h5⟩ | ⟨g, cap, h1, _⟩
    · rw [h5] at hp; simp at hp
    · exact ⟨g, (Value.slice.inj h1).1⟩
  refine ⟨g, rfl, ?_, h3 p (List.mem_of_getElem? hp)⟩
  have := slIs.cell (f := RRow.ptr) (m := 1) (fun _ => rfl) h2 (g := g) rfl hp (j := 0) (show (RRow.ptr p)[0]? = some (.pointer (some ⟨p.b, 0, none⟩)) from rfl)
  simpa using this
section
variable {w : World} {r : Nat} {H : HeapM} {rows : List RRow} {sa : Option Addr} {sc : Nat}
theorem ofR_some (h : H.objs = rows.map (fun p => (p.n, p.o))) (v : V) : (ofR rows v).isSome = (H.of v).isSome := by rw [ofR_of h v]; simp
set_option maxRecDepth 100000 in
set_option maxHeartbeats 1600000 in
theorem ref_all (R : RefCells w r H rows sa sc) (hl : rows.length ≤ 4000000) :
    Calls Tryz.prog 14 #[.pointer (some ⟨r, 0, none⟩)] w fun e W => ∃ v, e = .returned v ∧ Sep w [numsR v (H.objs.map (·.1))] W := by
  have HR := Lib.hid R
  have hli : (rows.length : Int) ≤ 4000000 := by omega
  have S0 := Lib.hid ((Sep.start (Below.refl w.heap.size w)).madeNums)
  have hlist : H.objs.map (·.1) = rows.map (·.n) := by rw [R.objs, List.map_map]; rfl
  rw [hlist]
  have hb0 := World.block_lt_of_cell? _ _ R.head
  clear R hlist
  go_enter Tryz.func14, Tryz.ntmps14
  go_wp2
  go_loopw [3, 4] (fun out i wr => ∃ k : Nat, k ≤ rows.length ∧ i = .int .i64 k ∧ Sep w [numsR out ((rows.map (·.n)).take k)] wr) (fun _ i _ => rows.length - (intOf i).toNat)
  case atStart => exact ⟨0, by omega, rfl, S0.out⟩
  case round =>
    clear S0
    obtain ⟨k, hk, rfl, S1⟩ := hrel
    obtain ⟨oa, oc, rfl⟩ := (S1.row 0 rfl).form
    have c0 := cellBelow HR.out.head S1.below
    have hLl : ((rows.map (·.n)).take k).length ≤ 4000000 := by simp; omega
    obtain ⟨L, hL⟩ : ∃ L, (rows.map (·.n)).take k = L := ⟨_, rfl⟩
    rw [hL] at S1 hLl ⊢
    by_cases hlt : k < rows.length
    · have hlti : (k : Int) < rows.length := by omega
      obtain ⟨p, hp⟩ : ∃ p, rows[k]? = some p := ⟨rows[k], by simp [hlt]⟩
      obtain ⟨g, rfl, e0, hat⟩ := HR.out.row k p hp
      have e1 := cellBelow e0 S1.below
      have f1 := cellBelow (cellAt hat.1 0 (v := .int .i64 p.n) rfl) S1.below
      have hnext : L ++ [p.n] = (rows.map (·.n)).take (k + 1) := by
        rw [← hL, List.take_add_one, List.getElem?_map, hp]; rfl
      have HX := Lib.hid (And.intro hnext (And.intro hlt hLl))
      have S2 := Lib.hid S1
      clear S1 hnext hlt hLl hL hp hat e0
      go_wp2_with (at_builtin; refine wpList_push_sep rfl _ _ rfl (S2.out.later (belowAlloc _ _)) 0 rfl rfl _ _ rfl (cell_of_row _ _ _ _ _ _ (heapAllocNew _ _)) (by have := HX.out.2.2; omega) ?_)
      intro va vc w2 S3
      replace S3 := Lib.hid S3
      clear S2 c0 e1 f1
      go_wp2
      refine ⟨⟨k + 1, by have := HX.out.2.1; omega, by go_num, ?_⟩, by have := HX.out.2.1; simp [intOf]; omega⟩
      rw [← HX.out.1]; simpa using S3.out
    · have hlti : ¬ (k : Int) < rows.length := by omega
      have hfin : L = rows.map (·.n) := by rw [← hL, List.take_of_length_le (by simp; omega)]
      rw [hfin] at S1
      have hll : L.length = (rows.map (·.n)).length := by rw [hfin]
      rw [hll]
      obtain ⟨NS, hNS⟩ : ∃ NS, rows.map (·.n) = NS := ⟨_, rfl⟩
      rw [hNS] at S1 hll ⊢
      have HNS := Lib.hid hNS
      have S2 := Lib.hid S1
      clear S1 hlt hL hfin hLl hll hNS
      go_wp2
      go_ret
      exact ⟨_, rfl, by rw [HNS.out]; exact S2.out⟩
def liveBy (k : Int) (p : Int × ObjM) : Bool := decide (k = 0) || decide (p.2.kind = k)
theorem live_take {l : List (Int × ObjM)} {k : Int} {j : Nat} {p : Int × ObjM} (h : l[j]? = some p) : ((l.take (j + 1)).filter (liveBy k)).length = ((l.take j).filter (liveBy k)).length + (liveBy k p).toNat := by
  rw [List.take_add_one, h, List.filter_append, List.length_append]
  cases hh : liveBy k p <;> simp [hh]
set_option maxRecDepth 100000 in
set_option maxHeartbeats 1600000 in
theorem ref_live (R : RefCells w r H rows sa sc) (hl : rows.length ≤ 4000000) (kd : Int) :
    Calls Tryz.prog 9 #[.pointer (some ⟨r, 0, none⟩), .int .i64 kd] w fun e W => e = .returned (.int .i64 (H.live kd)) ∧ Below w.heap.size w W := by
  have HR := Lib.hid R
  have hli : (rows.length : Int) ≤ 4000000 := by omega
  have c0 := R.head
  have hlen : H.objs.length = rows.length := by rw [R.objs]; simp
  have HLN := Lib.hid hlen
  clear R hlen
  go_enter Tryz.func9, Tryz.ntmps9
  go_wp2
  go_loopw [5, 6] (fun n i wr => ∃ k : Nat, k ≤ rows.length ∧ i = .int .i64 k ∧ n = .int .i64 (((H.objs.take k).filter (liveBy kd)).length : Nat) ∧ Below w.heap.size w wr) (fun _ i _ => rows.length - (intOf i).toNat)
  case atStart => exact ⟨0, by omega, rfl, rfl, Below.refl _ _⟩
  case round =>
    obtain ⟨k, hk, rfl, rfl, hB⟩ := hrel
    have d0 := cellBelow c0 hB
    have hcl : ((H.objs.take k).filter (liveBy kd)).length ≤ 4000000 := by have := List.length_filter_le (liveBy kd) (H.objs.take k); simp at this; omega
    by_cases hlt : k < rows.length
    · have hlti : (k : Int) < rows.length := by omega
      obtain ⟨p, hp⟩ : ∃ p, rows[k]? = some p := ⟨rows[k], by simp [hlt]⟩
      obtain ⟨g, rfl, e0, hat⟩ := HR.out.row k p hp
      have e1 := cellBelow e0 hB
      have f1 := cellBelow (cellAt hat.1 1 (v := .int .i64 p.o.kind) rfl) hB
      have hstep := live_take (l := H.objs) (k := kd) (j := k) (p := (p.n, p.o)) (by rw [HR.out.objs, List.getElem?_map, hp]; rfl)
      obtain ⟨c, hc⟩ : ∃ c, ((H.objs.take k).filter (liveBy kd)).length = c := ⟨_, rfl⟩
      rw [hc] at hstep hcl ⊢
      have hci : (c : Int) + 1 ≤ 4000001 := by omega
      have HX := Lib.hid (And.intro hstep hlt)
      have HB := Lib.hid hB
      by_cases h0 : kd = 0
      · have hbq : (kd == 0) = true := by simpa using h0
        have hlb : liveBy kd (p.n, p.o) = true := by simp [liveBy, h0]
        have HLB := Lib.hid hlb
        clear hstep hlt hB hp hat e0 hc hlb h0
        go_wp2
        exact ⟨⟨k + 1, by have := HX.out.2; omega, by go_num, by rw [HX.out.1, HLB.out]; go_num, HB.out⟩, by have := HX.out.2; simp [intOf]; omega⟩
      · have hbq : (kd == 0) = false := by simpa using h0
        by_cases h1 : p.o.kind = kd
        · have hbq2 : (p.o.kind == kd) = true := by simpa using h1
          have hlb : liveBy kd (p.n, p.o) = true := by simp [liveBy, h1]
          have HLB := Lib.hid hlb
          clear hstep hlt hB hp hat e0 hc hlb h0 h1
          go_wp2
          exact ⟨⟨k + 1, by have := HX.out.2; omega, by go_num, by rw [HX.out.1, HLB.out]; go_num, HB.out⟩, by have := HX.out.2; simp [intOf]; omega⟩
        · have hbq2 : (p.o.kind == kd) = false := by simpa using h1
          have hlb : liveBy kd (p.n, p.o) = false := by simp [liveBy, h0, h1]
          have HLB := Lib.hid hlb
          clear hstep hlt hB hp hat e0 hc hlb h0 h1
          go_wp2
          exact ⟨⟨k + 1, by have := HX.out.2; omega, by go_num, by rw [HX.out.1, HLB.out]; simp, HB.out⟩, by have := HX.out.2; simp [intOf]; omega⟩
    · have hlti : ¬ (k : Int) < rows.length := by omega
      have hfin : ((H.objs.take k).filter (liveBy kd)).length = H.live kd := by
        rw [List.take_of_length_le (by rw [HLN.out]; omega)]; rfl
      rw [hfin]
      have HB := Lib.hid hB
      clear hB hlt hfin hcl
      go_wp2
      go_ret
      exact ⟨rfl, HB.out⟩
end
/-- Of these values, the numbers of those that are of an object. -/
def HeapM.liveNs (H : HeapM) (l : List V) : List Int := (l.filter fun x => (H.of x).isSome).map (·.n)
theorem liveNs_step (H : HeapM) {l : List V} {k : Nat} {x : V} (h : l[k]? = some x) : H.liveNs (l.take (k + 1)) = if (H.of x).isSome = true then H.liveNs (l.take k) ++ [x.n] else H.liveNs (l.take k) := by
  unfold HeapM.liveNs
  rw [List.take_add_one, h, Option.toList_some, List.filter_append, List.map_append]
  by_cases hx : (H.of x).isSome = true
  · rw [List.filter_cons_of_pos (p := fun x => (H.of x).isSome) hx, if_pos hx]; rfl
  · rw [List.filter_cons_of_neg (p := fun x => (H.of x).isSome) hx, if_neg hx]; simp
theorem liveNs_len (H : HeapM) (l : List V) : (H.liveNs l).length ≤ l.length := by unfold HeapM.liveNs; rw [List.length_map]; exact List.length_filter_le _ _
section
variable {w W : World} {r : Nat} {H : HeapM} {rows : List RRow} {sa : Option Addr} {sc : Nat}
theorem RefCells.later (R : RefCells w r H rows sa sc) (hb : Below w.heap.size w W) : RefCells W r H rows sa sc :=
  ⟨cellBelow R.head hb, R.objs, fun k p hp => by
    obtain ⟨g, h1, h2, h3⟩ := R.row k p hp
    exact ⟨g, h1, cellBelow h2 hb, h3.below hb⟩, fun v W' hb' => R.of_ v W' (Below.next hb hb' hb.size)⟩
set_option maxRecDepth 100000 in
set_option maxHeartbeats 3200000 in
theorem ref_holds (R : RefCells w r H rows sa sc) {p : RRow} (hat : p.At w) (hl1 : p.o.items.length ≤ 4000000) (hl2 : p.o.pairs.length ≤ 4000000) :
    Calls Tryz.prog 74 #[.pointer (some ⟨r, 0, none⟩), .pointer (some ⟨p.b, 0, none⟩)] w fun e W => ∃ v, e = .returned v ∧ Sep w [numsR v (H.liveNs p.o.items ++ H.liveNs (p.o.pairs.map (·.2)))] W := by
  have HR := Lib.hid R
  have hli1 : (p.o.items.length : Int) ≤ 4000000 := by omega
  have hli2 : (p.o.pairs.length : Int) ≤ 4000000 := by omega
  have S0 := Lib.hid ((Sep.start (Below.refl w.heap.size w)).madeNums)
  obtain ⟨ia, ic, hiv⟩ := hat.2.1.form
  obtain ⟨da, dc, hdv⟩ := hat.2.2.form
  have c4 := cellAt hat.1 4 (v := .slice ia p.o.items.length ic) (by rw [← hiv]; rfl)
  have c5 := cellAt hat.1 5 (v := .slice da p.o.pairs.length dc) (by rw [← hdv]; rfl)
  have hI := hat.2.1
  have hD := hat.2.2
  rw [hiv] at hI
  rw [hdv] at hD
  have HI := Lib.hid (And.intro hI hD)
  have HC := Lib.hid (And.intro c4 c5)
  clear R hat hiv hdv hI hD c4 c5
  go_enter Tryz.func74, Tryz.ntmps74
  go_wp2
  go_loopw [5, 6] (fun out i wr => ∃ k : Nat, k ≤ p.o.items.length ∧ i = .int .i64 k ∧ Sep w [numsR out (H.liveNs (p.o.items.take k))] wr) (fun _ i _ => p.o.items.length - (intOf i).toNat)
  case atStart => exact ⟨0, by omega, rfl, S0.out⟩
  case round =>
    clear S0
    obtain ⟨k, hk, rfl, S1⟩ := hrel
    obtain ⟨oa, oc, rfl⟩ := (S1.row 0 rfl).form
    have c4 := cellBelow HC.out.1 S1.below
    have hLl : (H.liveNs (p.o.items.take k)).length ≤ 4000000 := by have := liveNs_len H (p.o.items.take k); simp at this; omega
    have hstep := fun x (hx : p.o.items[k]? = some x) => liveNs_step H hx
    obtain ⟨L, hL⟩ : ∃ L, H.liveNs (p.o.items.take k) = L := ⟨_, rfl⟩
    rw [hL] at S1 hLl hstep ⊢
    by_cases hlt : k < p.o.items.length
    · have hlti : (k : Int) < p.o.items.length := by omega
      obtain ⟨x, hx⟩ : ∃ x, p.o.items[k]? = some x := ⟨p.o.items[k], by simp [hlt]⟩
      obtain ⟨g, rfl⟩ : ∃ g, ia = some ⟨g, 0, none⟩ := by
        rcases HI.out.1.shape with ⟨h1, h2⟩ | ⟨g, cap, h1, _⟩
        · rw [h2] at hx; simp at hx
        · exact ⟨g, (Value.slice.inj h1).1⟩
      have j0 := HI.out.1.cell V.cells_len rfl hx (j := 0) rfl
      rw [Nat.add_zero] at j0
      have j1 := HI.out.1.cell V.cells_len rfl hx (j := 1) rfl
      have j2 := HI.out.1.cell V.cells_len rfl hx (j := 2) rfl
      have HJ := Lib.hid (fun W (hb : Below w.heap.size w W) => And.intro (cellBelow j0 hb) (And.intro (cellBelow j1 hb) (cellBelow j2 hb)))
      obtain ⟨d0, d1, d2⟩ := HJ.out _ S1.below
      have HO := HR.out.of_ x _ S1.below
      have hnx := hstep x hx
      cases hf : ofR rows x with
      | none =>
        rw [hf] at HO
        rw [if_neg (by rw [← ofR_some HR.out.objs, hf]; simp)] at hnx
        replace HO := Lib.hid HO
        have HX := Lib.hid (And.intro hnx (And.intro hlt hLl))
        have S2 := Lib.hid S1
        clear S1 hstep hnx hlt hLl hL hx j0 j1 j2 hf
        simp only [V.val] at HO
        go_wp2_with fail
        refine HO.out.mono ?_
        rintro e w2 ⟨rfl, hb⟩
        have S3 := Lib.hid (S2.out.later hb)
        clear S2 hb HO c4 d0 d1 d2
        go_wp2
        exact ⟨⟨k + 1, by have := HX.out.2.1; omega, by go_num, by rw [HX.out.1]; exact S3.out⟩, by have := HX.out.2.1; simp [intOf]; omega⟩
      | some q =>
        rw [hf] at HO
        rw [if_pos (by rw [← ofR_some HR.out.objs, hf]; rfl)] at hnx
        replace HO := Lib.hid HO
        have HX := Lib.hid (And.intro hnx (And.intro hlt hLl))
        have S2 := Lib.hid S1
        clear S1 hstep hnx hlt hLl hL hx j0 j1 j2 hf
        simp only [V.val] at HO
        go_wp2_with fail
        refine HO.out.mono ?_
        rintro e w2 ⟨rfl, hb⟩
        have S3 := S2.out.later hb
        clear c4 d0 d1 d2
        have c4 := cellBelow HC.out.1 S3.below
        obtain ⟨d0, d1, d2⟩ := HJ.out _ S3.below
        replace S3 := Lib.hid S3
        clear S2 hb HO
        go_wp2_with (at_builtin; refine wpList_push_sep rfl _ _ rfl (S3.out.later (belowAlloc _ _)) 0 rfl rfl _ _ rfl (cell_of_row _ _ _ _ _ _ (heapAllocNew _ _)) (by have := HX.out.2.2; omega) ?_)
        intro va vc w3 S4
        replace S4 := Lib.hid S4
        clear S3 c4 d0 d1 d2
        go_wp2
        refine ⟨⟨k + 1, by have := HX.out.2.1; omega, by go_num, ?_⟩, by have := HX.out.2.1; simp [intOf]; omega⟩
        rw [HX.out.1]; simpa using S4.out
    · have hlti : ¬ (k : Int) < p.o.items.length := by omega
      have hfin : L = H.liveNs p.o.items := by rw [← hL, List.take_of_length_le (by omega)]
      have SS : Hid (Sep w [numsR (.slice oa L.length oc) (L ++ H.liveNs ((p.o.pairs.map (·.2)).take 0))] wr) := Lib.hid (by simpa [HeapM.liveNs] using S1)
      have HF := Lib.hid (And.intro hfin hLl)
      clear S1 hstep hlt hL hfin hLl
      go_wp2
      go_loopw [5, 7] (fun out i wr => ∃ k : Nat, k ≤ p.o.pairs.length ∧ i = .int .i64 k ∧ Sep w [numsR out (L ++ H.liveNs ((p.o.pairs.map (·.2)).take k))] wr) (fun _ i _ => p.o.pairs.length - (intOf i).toNat)
      case atStart => exact ⟨0, by omega, rfl, SS.out⟩
      case round =>
        clear SS
        obtain ⟨j, hj, rfl, S1⟩ := hrel
        obtain ⟨oa, oc, rfl⟩ := (S1.row 0 rfl).form
        have c5 := cellBelow HC.out.2 S1.below
        have hMl : (L ++ H.liveNs ((p.o.pairs.map (·.2)).take j)).length ≤ 8000000 := by have := liveNs_len H ((p.o.pairs.map (·.2)).take j); have := HF.out.2; simp at *; omega
        have hstep := fun x (hx : (p.o.pairs.map (·.2))[j]? = some x) => liveNs_step H hx
        have hend : p.o.pairs.length ≤ j → L ++ H.liveNs ((p.o.pairs.map (·.2)).take j) = H.liveNs p.o.items ++ H.liveNs (p.o.pairs.map (·.2)) := fun h => by rw [HF.out.1, List.take_of_length_le (by simpa using h)]
        obtain ⟨M0, hM0⟩ : ∃ M, H.liveNs ((p.o.pairs.map (·.2)).take j) = M := ⟨_, rfl⟩
        rw [hM0] at S1 hMl hstep hend ⊢
        obtain ⟨M, hM⟩ : ∃ M, L ++ M0 = M := ⟨_, rfl⟩
        rw [hM] at S1 hMl hend ⊢
        by_cases hlt : j < p.o.pairs.length
        · have hltj : (j : Int) < p.o.pairs.length := by omega
          obtain ⟨y, hy⟩ : ∃ y, p.o.pairs[j]? = some y := ⟨p.o.pairs[j], by simp [hlt]⟩
          obtain ⟨g, rfl⟩ : ∃ g, da = some ⟨g, 0, none⟩ := by
            rcases HI.out.2.shape with ⟨h1, h2⟩ | ⟨g, cap, h1, _⟩
            · rw [h2] at hy; simp at hy
            · exact ⟨g, (Value.slice.inj h1).1⟩
          have j0 := HI.out.2.cell pairCells_len rfl hy (j := 3) (u := .int .i64 y.2.kind) rfl
          have j1 := HI.out.2.cell pairCells_len rfl hy (j := 4) (u := .int .i64 y.2.n) rfl
          have j2 := HI.out.2.cell pairCells_len rfl hy (j := 5) (u := .string y.2.s) rfl
          have HJ := Lib.hid (fun W (hb : Below w.heap.size w W) => And.intro (cellBelow j0 hb) (And.intro (cellBelow j1 hb) (cellBelow j2 hb)))
          obtain ⟨d0, d1, d2⟩ := HJ.out _ S1.below
          have HO := HR.out.of_ y.2 _ S1.below
          have hnx := hstep y.2 (by rw [List.getElem?_map, hy]; rfl)
          cases hf : ofR rows y.2 with
          | none =>
            rw [hf] at HO
            rw [if_neg (by rw [← ofR_some HR.out.objs, hf]; simp)] at hnx
            replace HO := Lib.hid HO
            have HX := Lib.hid (And.intro hnx (And.intro hlt (And.intro hMl hM)))
            have S2 := Lib.hid S1
            clear S1 hstep hend hnx hlt hMl hM hy j0 j1 j2 hf hM0
            simp only [V.val] at HO
            go_wp2_with fail
            refine HO.out.mono ?_
            rintro e w2 ⟨rfl, hb⟩
            have S3 := Lib.hid (S2.out.later hb)
            clear S2 hb HO c5 d0 d1 d2
            go_wp2
            exact ⟨⟨j + 1, by have := HX.out.2.1; omega, by go_num, by rw [HX.out.1, HX.out.2.2.2]; exact S3.out⟩, by have := HX.out.2.1; simp [intOf]; omega⟩
          | some q =>
            rw [hf] at HO
            rw [if_pos (by rw [← ofR_some HR.out.objs, hf]; rfl)] at hnx
            replace HO := Lib.hid HO
            have HX := Lib.hid (And.intro hnx (And.intro hlt (And.intro hMl hM)))
            have S2 := Lib.hid S1
            clear S1 hstep hend hnx hlt hMl hM hy j0 j1 j2 hf hM0
            simp only [V.val] at HO
            go_wp2_with fail
            refine HO.out.mono ?_
            rintro e w2 ⟨rfl, hb⟩
            have S3 := S2.out.later hb
            clear c5 d0 d1 d2
            have c5 := cellBelow HC.out.2 S3.below
            obtain ⟨d0, d1, d2⟩ := HJ.out _ S3.below
            replace S3 := Lib.hid S3
            clear S2 hb HO
            go_wp2_with (at_builtin; refine wpList_push_sep rfl _ _ rfl (S3.out.later (belowAlloc _ _)) 0 rfl rfl _ _ rfl (cell_of_row _ _ _ _ _ _ (heapAllocNew _ _)) (by have := HX.out.2.2.1; omega) ?_)
            intro va vc w3 S4
            replace S4 := Lib.hid S4
            clear S3 c5 d0 d1 d2
            go_wp2
            refine ⟨⟨j + 1, by have := HX.out.2.1; omega, by go_num, ?_⟩, by have := HX.out.2.1; simp [intOf]; omega⟩
            rw [HX.out.1, ← List.append_assoc, HX.out.2.2.2]; simpa using S4.out
        · have hltj : ¬ (j : Int) < p.o.pairs.length := by omega
          have hf := hend (by omega)
          have S2 := Lib.hid S1
          have HF2 := Lib.hid hf
          clear S1 hstep hend hlt hMl hM hf hM0
          go_wp2
          go_ret
          exact ⟨_, rfl, by rw [← HF2.out]; exact S2.out⟩
end
theorem liveNs_append (H : HeapM) (l m : List V) : H.liveNs (l ++ m) = H.liveNs l ++ H.liveNs m := by simp [HeapM.liveNs, List.filter_append]
theorem refNs_some (H : HeapM) {v : V} {o : ObjM} (g : H.of v = some o) : H.refNs v = H.liveNs o.items ++ H.liveNs (o.pairs.map (·.2)) := by
  rw [← liveNs_append]; unfold HeapM.refNs; rw [g]; rfl
theorem refNs_none (H : HeapM) {v : V} (g : H.of v = none) : H.refNs v = [] := by unfold HeapM.refNs; rw [g]
/-- What objects hold, counted. -/
theorem liveNs_count (H : HeapM) (n : Int) (hn : (getL H.objs n).isSome = true) (l : List V) : ((H.liveNs l).count n : Int) = cnt l n := by
  have : (H.liveNs l).count n = (l.filter (isRef n)).length := by
    unfold HeapM.liveNs
    induction l with
    | nil => rfl
    | cons x r ih =>
      by_cases hx : (H.of x).isSome = true
      · rw [List.filter_cons_of_pos (p := fun x => (H.of x).isSome) hx, List.map_cons, List.count_cons, ih]
        obtain ⟨o, ho⟩ := Option.isSome_iff_exists.1 hx
        have hk := (HeapM.of_some ho).1
        by_cases e : x.n = n
        · rw [List.filter_cons_of_pos (by simp [isRef, hk, e])]; simp [e]
        · rw [List.filter_cons_of_neg (by simp [isRef, e])]; simp [e]
      · rw [List.filter_cons_of_neg (p := fun x => (H.of x).isSome) hx, ih]
        rw [List.filter_cons_of_neg]
        intro h
        simp only [isRef, Bool.and_eq_true, decide_eq_true_eq] at h
        refine hx ?_
        unfold HeapM.of; rw [if_pos h.1, h.2]; exact hn
  rw [this]; rfl
def rowNs (H : HeapM) (p : RRow) : List Int := H.liveNs p.o.items ++ H.liveNs (p.o.pairs.map (·.2))
theorem rows_count (H : HeapM) (n : Int) (hn : (getL H.objs n).isSome = true) : ∀ rows : List RRow, ((rows.flatMap (rowNs H)).count n : Int) = cnt (allVals (rows.map fun p => (p.n, p.o))) n
  | [] => rfl
  | p :: rows => by
    have hc : allVals ((p :: rows).map fun p => (p.n, p.o)) = p.o.vals ++ allVals (rows.map fun p => (p.n, p.o)) := by simp [allVals]
    rw [hc, cnt_append, ← rows_count H n hn rows, List.flatMap_cons, List.count_append, ← liveNs_count H n hn p.o.vals]
    unfold rowNs ObjM.vals
    rw [liveNs_append]
    omega
section
variable {w W : World} {r : Nat} {H : HeapM} {rows : List RRow} {sa : Option Addr} {sc : Nat}
/-- Of is met. -/
theorem of_cases (R : RefCells w r H rows sa sc) (v : V) : (H.of v = none ∧ ofR rows v = none) ∨ ∃ p, ofR rows v = some p ∧ H.of v = some p.o ∧ p.At w := by
  have he := ofR_of R.objs v
  cases hf : ofR rows v with
  | none => left; rw [hf] at he; exact ⟨he, rfl⟩
  | some p =>
    right
    rw [hf] at he
    obtain ⟨k, hk⟩ := List.getElem?_of_mem (ofR_mem hf).1
    obtain ⟨g, _, _, hat⟩ := R.row k p hk
    exact ⟨p, rfl, he, hat⟩
set_option maxRecDepth 100000 in
set_option maxHeartbeats 1600000 in
theorem ref_refs (R : RefCells w r H rows sa sc) {N : Nat} (G : H.Good N) (hN : N ≤ 4000000) (v : V) :
    Calls Tryz.prog 53 #[.pointer (some ⟨r, 0, none⟩), v.val] w fun e W => ∃ sv, e = .returned sv ∧ Sep w [numsR sv (H.refNs v)] W := by
  have HO := Lib.hid (R.of_ v)
  rcases of_cases R v with ⟨h1, h2⟩ | ⟨p, h1, h2, hat⟩
  · rw [refNs_none H h1]
    rw [h2] at HO
    clear R h1 h2
    simp only [V.val] at *
    go_enter Tryz.func53, Tryz.ntmps53
    go_wp2_with fail
    refine (HO.out _ (by (repeat (first | exact Below.refl _ _ | assumption | refine Below.drewN ?_ _ | refine Below.drew ?_ | refine Below.alloc ?_ (by (try simp only [World.size_alloc, size_drewN, size_setCell]); omega) _ | refine Below.setCell ?_ (by (try simp only [World.size_alloc, size_drewN, size_setCell]); omega) _)))).mono ?_
    rintro e w1 ⟨rfl, hb1⟩
    have hB : Below w.heap.size w w1 := by exact Below.next (by (repeat (first | exact Below.refl _ _ | assumption | refine Below.drewN ?_ _ | refine Below.drew ?_ | refine Below.alloc ?_ (by (try simp only [World.size_alloc, size_drewN, size_setCell]); omega) _ | refine Below.setCell ?_ (by (try simp only [World.size_alloc, size_drewN, size_setCell]); omega) _))) hb1 (by (try simp only [World.size_alloc, size_drew, size_drewN, size_setCell]); omega)
    have S := Lib.hid ((Sep.start hB).addRow (Below.refl _ _) (e := 2) (m := 1) (f := intCell) (v := .slice none 0 0) (l := []) (World.ownsRow_nil _ _ _ _) (by simp [Value.ownBlock]))
    clear hb1 hB
    go_wp2
    go_ret
    exact ⟨_, rfl, S.out⟩
  · rw [refNs_some H h2]
    rw [h1] at HO
    have hw : p.o.items.length + p.o.pairs.length ≤ N := by
      have h3 : p.o.vals.length ≤ H.weight := vals_le_weight (getL_mem (HeapM.of_some h2).2)
      have := G.wt
      unfold ObjM.vals at h3
      simp at h3; omega
    have HH := Lib.hid (fun w1 (hb : Below w.heap.size w w1) => ref_holds (R.later hb) (hat.below hb) (by omega) (by omega))
    clear R h1 h2 hat hw
    simp only [V.val] at *
    go_enter Tryz.func53, Tryz.ntmps53
    go_wp2_with fail
    refine (HO.out _ (by (repeat (first | exact Below.refl _ _ | assumption | refine Below.drewN ?_ _ | refine Below.drew ?_ | refine Below.alloc ?_ (by (try simp only [World.size_alloc, size_drewN, size_setCell]); omega) _ | refine Below.setCell ?_ (by (try simp only [World.size_alloc, size_drewN, size_setCell]); omega) _)))).mono ?_
    rintro e w1 ⟨rfl, hb1⟩
    have hB : Below w.heap.size w w1 := by exact Below.next (by (repeat (first | exact Below.refl _ _ | assumption | refine Below.drewN ?_ _ | refine Below.drew ?_ | refine Below.alloc ?_ (by (try simp only [World.size_alloc, size_drewN, size_setCell]); omega) _ | refine Below.setCell ?_ (by (try simp only [World.size_alloc, size_drewN, size_setCell]); omega) _))) hb1 (by (try simp only [World.size_alloc, size_drew, size_drewN, size_setCell]); omega)
    have C := Lib.hid (HH.out w1 hB)
    have S0 := Lib.hid (Sep.start hB)
    clear hb1 hB HH
    go_wp2_with fail
    refine C.out.mono ?_
    rintro e w2 ⟨sv, rfl, S1⟩
    have S2 : Hid (∃ F, SepF [numsR sv (H.liveNs p.o.items ++ H.liveNs (p.o.pairs.map (·.2)))] w2 F ∧ F.Nodup ∧ (∀ b ∈ F, w1.heap.size ≤ b) ∧ Below w1.heap.size w1 w2) := Lib.hid (by obtain ⟨hb, F, f1, f2, f3⟩ := S1; exact ⟨F, f1, f2, f3, hb⟩)
    clear S1 C
    go_wp2
    go_ret
    obtain ⟨F, f1, f2, f3, hb⟩ := S2.out
    exact ⟨_, rfl, S0.out.more hb f1 f2 f3⟩
set_option maxRecDepth 100000 in
set_option maxHeartbeats 3200000 in
theorem ref_count (R : RefCells w r H rows sa sc) {N : Nat} (G : H.Good N) (hN : N ≤ 4000000) (v : V) :
    Calls Tryz.prog 51 #[.pointer (some ⟨r, 0, none⟩), v.val] w fun e W => e = .returned (.int .i64 (H.count v)) ∧ Below w.heap.size w W := by
  have HO := Lib.hid (R.of_ v)
  have hwt := G.wt
  have hrl : rows.length ≤ 4000000 := by
    have h1 : rows.length = H.objs.length := by rw [R.objs]; simp
    unfold HeapM.weight at hwt; omega
  have hrli : (rows.length : Int) ≤ 4000000 := by omega
  rcases of_cases R v with ⟨h1, h2⟩ | ⟨p, h1, h2, hat⟩
  · have hc : H.count v = 0 := by unfold HeapM.count; rw [h1]; rfl
    rw [hc]
    rw [h2] at HO
    clear R h1 h2 hc
    simp only [V.val] at *
    go_enter Tryz.func51, Tryz.ntmps51
    go_wp2_with fail
    refine (HO.out _ (by (repeat (first | exact Below.refl _ _ | assumption | refine Below.drewN ?_ _ | refine Below.drew ?_ | refine Below.alloc ?_ (by (try simp only [World.size_alloc, size_drewN, size_setCell]); omega) _ | refine Below.setCell ?_ (by (try simp only [World.size_alloc, size_drewN, size_setCell]); omega) _)))).mono ?_
    rintro e w1 ⟨rfl, hb1⟩
    have HB := Lib.hid (show Below w.heap.size w w1 by exact Below.next (by (repeat (first | exact Below.refl _ _ | assumption | refine Below.drewN ?_ _ | refine Below.drew ?_ | refine Below.alloc ?_ (by (try simp only [World.size_alloc, size_drewN, size_setCell]); omega) _ | refine Below.setCell ?_ (by (try simp only [World.size_alloc, size_drewN, size_setCell]); omega) _))) hb1 (by (try simp only [World.size_alloc, size_drew, size_drewN, size_setCell]); omega))
    clear hb1
    go_wp2
    go_ret
    exact ⟨rfl, HB.out⟩
  · have hlive : (getL H.objs v.n).isSome = true := by rw [(HeapM.of_some h2).2]; rfl
    have hc : H.count v = ((rows.flatMap (rowNs H)).count v.n : Nat) := by
      rw [rows_count H v.n hlive, ← R.objs]; unfold HeapM.count; rw [h2]; rfl
    have hmax : ((rows.flatMap (rowNs H)).count v.n : Int) ≤ 4000000 := by
      rw [rows_count H v.n hlive, ← R.objs]
      have := cnt_le (allVals H.objs) v.n
      unfold HeapM.weight at hwt; omega
    have hpart : ∀ k, (((rows.take k).flatMap (rowNs H)).count v.n : Int) ≤ 4000000 := fun k => by
      have : ((rows.take k).flatMap (rowNs H)).count v.n ≤ (rows.flatMap (rowNs H)).count v.n := by
        refine List.Sublist.count_le _ ?_
        conv => rhs; rw [← List.take_append_drop k rows, List.flatMap_append]
        exact List.sublist_append_left _ _
      omega
    rw [hc]
    rw [h1] at HO
    have HR := Lib.hid R
    have HP := Lib.hid hpart
    have HG := Lib.hid G
    have hfl := fun (k : Nat) (q : RRow) (hq : rows[k]? = some q) => (show (rows.take (k + 1)).flatMap (rowNs H) = (rows.take k).flatMap (rowNs H) ++ rowNs H q by rw [List.take_add_one, hq, Option.toList_some, List.flatMap_append]; simp)
    have HFL := Lib.hid hfl
    have hhold := fun (k : Nat) (q : RRow) (hq : rows[k]? = some q) (W : World) (hb : Below w.heap.size w W) => (show Calls Tryz.prog 74 #[.pointer (some ⟨r, 0, none⟩), .pointer (some ⟨q.b, 0, none⟩)] W fun e W' => ∃ v, e = .returned v ∧ Sep W [numsR v (rowNs H q)] W' from by
      obtain ⟨g, _, _, hat⟩ := R.row k q hq
      have hw : q.o.items.length + q.o.pairs.length ≤ N := by
        have h3 : q.o.vals.length ≤ H.weight := vals_le_weight (p := (q.n, q.o)) (by rw [R.objs]; exact List.mem_map.2 ⟨q, List.mem_of_getElem? hq, rfl⟩)
        unfold ObjM.vals at h3
        simp at h3; omega
      exact ref_holds (R.later hb) (hat.below hb) (by omega) (by omega))
    have HH := Lib.hid hhold
    clear R h1 h2 hat hc hwt hlive hmax hpart hfl hhold
    obtain ⟨vk, vn, vs, _, _, _⟩ := v
    simp only [V.val] at HO ⊢
    simp only at HP
    go_enter Tryz.func51, Tryz.ntmps51
    go_wp2_with fail
    refine (HO.out _ (by (repeat (first | exact Below.refl _ _ | assumption | refine Below.drewN ?_ _ | refine Below.drew ?_ | refine Below.alloc ?_ (by (try simp only [World.size_alloc, size_drewN, size_setCell]); omega) _ | refine Below.setCell ?_ (by (try simp only [World.size_alloc, size_drewN, size_setCell]); omega) _)))).mono ?_
    rintro e w1 ⟨rfl, hb1⟩
    obtain ⟨bx, hbx⟩ : ∃ bx, w.heap.size = bx := ⟨_, rfl⟩
    have S0 : Sep w [boxR bx (.cells #[.int .i64 vk, .int .i64 vn, .string vs] 31)] w1 := by
      have := ((Sep.start (Below.refl w.heap.size w)).alloc (.cells #[.int .i64 vk, .int .i64 vn, .string vs] 31)).later hb1
      rw [hbx] at this
      exact this
    rw [hbx]
    replace S0 := Lib.hid S0
    clear hb1 HO hbx
    go_wp2
    go_loopw [5, 6] (fun n i wr => ∃ k : Nat, k ≤ rows.length ∧ i = .int .i64 k ∧ n = .int .i64 (((rows.take k).flatMap (rowNs H)).count vn : Nat) ∧ Sep w [boxR bx (.cells #[.int .i64 vk, .int .i64 vn, .string vs] 31)] wr) (fun _ i _ => rows.length - (intOf i).toNat)
    case atStart => exact ⟨0, by omega, rfl, rfl, S0.out⟩
    case round =>
      clear S0
      obtain ⟨k, hk, rfl, rfl, S1⟩ := hrel
      have d0 := cellBelow HR.out.head S1.below
      by_cases hlt : k < rows.length
      · have hlti : (k : Int) < rows.length := by omega
        obtain ⟨q, hq⟩ : ∃ q, rows[k]? = some q := ⟨rows[k], by simp [hlt]⟩
        obtain ⟨g, rfl, e0, hat⟩ := HR.out.row k q hq
        have e1 := cellBelow e0 S1.below
        have C := Lib.hid (HH.out k q hq wr S1.below)
        have hfl := HFL.out k q hq
        have hp1 := HP.out (k + 1)
        rw [hfl] at hp1
        obtain ⟨D, hD⟩ : ∃ D, (rows.take k).flatMap (rowNs H) = D := ⟨_, rfl⟩
        obtain ⟨O, hO⟩ : ∃ O, rowNs H q = O := ⟨_, rfl⟩
        rw [hD, hO] at hfl hp1
        rw [hD]
        rw [hO] at C
        have HX := Lib.hid (And.intro hfl (And.intro hp1 hlt))
        have S2 := Lib.hid S1
        clear S1 hfl hp1 hlt hq hat e0 hD hO
        go_wp2_with fail
        refine C.out.mono ?_
        rintro e w2 ⟨ov, rfl, S3⟩
        have S4 : Sep w [numsR ov O, boxR bx (.cells #[.int .i64 vk, .int .i64 vn, .string vs] 31)] w2 := by
          obtain ⟨hb, F, f1, f2, f3⟩ := S3
          exact S2.out.more (Qs := [numsR ov O]) hb f1 f2 f3
        obtain ⟨oa, oc, rfl⟩ := (S4.row 0 rfl).form
        have hlO : (O.length : Int) ≤ 9223372036854775807 := by have := (S4.row 0 rfl).caps; unfold maxLen at this; omega
        have SS := Lib.hid S4
        clear S2 S3 S4 C e1 d0
        go_wp2
        go_loopw [5, 8] (fun n i wr => ∃ z : Nat, z ≤ O.length ∧ i = .int .i64 z ∧ n = .int .i64 ((D ++ O.take z).count vn : Nat) ∧ Sep w [numsR (.slice oa O.length oc) O, boxR bx (.cells #[.int .i64 vk, .int .i64 vn, .string vs] 31)] wr) (fun _ i _ => O.length - (intOf i).toNat)
        case atStart => exact ⟨0, by omega, rfl, by simp, SS.out⟩
        case round =>
          clear SS
          obtain ⟨z, hz, rfl, rfl, S5⟩ := hrel
          by_cases hlz : z < O.length
          · have hltz : (z : Int) < O.length := by omega
            obtain ⟨m, hm⟩ : ∃ m, O[z]? = some m := ⟨O[z], by simp [hlz]⟩
            obtain ⟨og, rfl⟩ := S5.numAddr 0 rfl hlz
            have cm := S5.numCell 0 rfl hm
            have b1 := cellAt (S5.box 1 rfl) 1 (v := .int .i64 vn) rfl
            have hstep : (D ++ O.take (z + 1)).count vn = (D ++ O.take z).count vn + (if m = vn then 1 else 0) := by
              rw [List.take_add_one, hm, Option.toList_some, ← List.append_assoc, List.count_append (l₁ := D ++ O.take z), List.count_singleton]
              simp [beq_iff_eq]
            have hle : ((D ++ O.take (z + 1)).count vn : Int) ≤ 4000000 := by
              have h1 : (D ++ O.take (z + 1)).count vn ≤ (D ++ O).count vn := by
                rw [List.count_append, List.count_append]
                have := (List.take_sublist (z + 1) O).count_le vn
                omega
              have := HX.out.2.1
              omega
            obtain ⟨c, hc⟩ : ∃ c, (D ++ O.take z).count vn = c := ⟨_, rfl⟩
            rw [hc] at hstep ⊢
            by_cases hmv : m = vn
            · rw [if_pos hmv] at hstep
              have hci : (c : Int) + 1 ≤ 4000000 := by omega
              have hbq : (m == vn) = true := by simpa using hmv
              have HS := Lib.hid (And.intro hstep hlz)
              have S6 := Lib.hid S5
              clear S5 hstep hle hlz hm hmv hc
              go_wp2
              go_region
              go_wp2
              exact ⟨⟨z + 1, by have := HS.out.2; omega, by go_num, by rw [HS.out.1]; go_num, S6.out.drew⟩, by have := HS.out.2; simp [intOf]; omega⟩
            · rw [if_neg hmv] at hstep
              have hbq : (m == vn) = false := by simpa using hmv
              have HS := Lib.hid (And.intro hstep hlz)
              have S6 := Lib.hid S5
              clear S5 hstep hle hlz hm hmv hc
              go_wp2
              go_region
              go_wp2
              exact ⟨⟨z + 1, by have := HS.out.2; omega, by go_num, by rw [HS.out.1]; simp, S6.out.drew⟩, by have := HS.out.2; simp [intOf]; omega⟩
          · have hltz : ¬ (z : Int) < O.length := by omega
            have hfz : (D ++ O.take z).count vn = (D ++ O).count vn := by rw [List.take_of_length_le (by omega)]
            rw [hfz]
            have S6 := Lib.hid S5.tail
            clear S5 hlz hfz
            go_wp2
            exact ⟨⟨k + 1, by have := HX.out.2.2; omega, by go_num, by rw [HX.out.1], S6.out⟩, by have := HX.out.2.2; simp [intOf]; omega⟩
      · have hlti : ¬ (k : Int) < rows.length := by omega
        rw [List.take_of_length_le (by omega)]
        have B := Lib.hid S1.below
        clear S1 hlt
        go_wp2
        go_ret
        exact ⟨rfl, B.out⟩
end
end Go.Proofs.YtoancpjlkhijiaaGreat
