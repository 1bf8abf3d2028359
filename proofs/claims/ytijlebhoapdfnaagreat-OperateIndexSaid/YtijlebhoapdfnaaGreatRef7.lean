/- The reference's heap: SetNum, SetAt, Del. -/
import Derived.Test.YtijlebhoapdfnaaGreatAlike16
import Derived.Test.YtijlebhoapdfnaaGreatRows3
set_option maxRecDepth 100000
set_option maxHeartbeats 800000
namespace Go.Proofs.YtijlebhoapdfnaaGreat
set_option linter.unusedSimpArgs false
open Go.RowKit
set_option linter.unusedVariables false
theorem PairsOk.del {L : List (V × V)} (h : PairsOk L) (k : V) : PairsOk (delL L k) :=
 ⟨h.nd.sublist (List.Sublist.map _ List.filter_sublist), fun q hq => h.key q (List.mem_filter.1 hq).1, Nat.le_trans (delL_len L k) h.len⟩
theorem HeapM.Fit.setAt {H : HeapM} {N : Nat} (h : H.Fit N) (v : V) (i : Int) (x : V) : (H.setAt v i x).Fit N := by
 have G := h.G.setAt v i x
 revert G
 unfold HeapM.setAt
 cases g : H.of v with
 | none => exact fun G => h
 | some o =>
  simp only
  split
  ·
   exact fun G => h.set g _ rfl (h.P _ (getL_mem (HeapM.of_some g).2)) G
  ·
   exact fun G => h
theorem HeapM.Fit.del {H : HeapM} {N : Nat} (h : H.Fit N) (v k : V) : (H.del v k).Fit N := by
 have G := h.G.del v k
 revert G
 unfold HeapM.del
 cases g : H.of v with
 | none => exact fun G => h
 | some o => exact fun G => h.set g _ rfl ((h.P _ (getL_mem (HeapM.of_some g).2)).del k) G
theorem HeapM.Fit.filter {H H' : HeapM} {N : Nat} (h : H.Fit N) (f : Int × ObjM → Bool) (he : H'.objs = H.objs.filter f) (hl : H'.last = H.last) : H'.Fit N :=
 ⟨h.G.filter f he hl, h.K.filter _ fun p hp => by rw [he] at hp; exact (List.mem_filter.1 hp).1, fun p hp => h.P p (by rw [he] at hp; exact (List.mem_filter.1 hp).1)⟩
theorem HeapM.Fit.drop {H : HeapM} {N : Nat} (h : H.Fit N) (n : Int) : (H.drop n).Fit N := h.filter _ rfl rfl
theorem HeapM.Fit.freeAll {H : HeapM} {N : Nat} (h : H.Fit N) (ns : List Int) : (H.freeAll ns).Fit N := by
 induction ns generalizing H with
 | nil => exact h
 | cons n r ih => exact ih (h.drop n)
theorem HeapM.Fit.sweep {H : HeapM} {N : Nat} (h : H.Fit N) (E : List V) : (H.sweep E).Fit N := h.filter (fun p => @decide (Kept H E p.1) (Classical.propDecidable _)) rfl rfl
section
variable {w W : World} {Rs : List Res} {r : Nat} {H : HeapM}
theorem ref_setAt (S : Sep w (refR r H :: Rs) W) (hn : (H.objs.map (·.1)).Nodup) (v : V) (i : Int) (x : V) (hi : okI i) :
  Calls Tryz.prog 108 #[.pointer (some ⟨r, 0, none⟩), v.val, .int .i64 i, x.val] W fun e W' => e = .returned (.bool (H.inItems v i)) ∧ Sep w (refR r (H.setAt v i x) :: Rs) W' := by
 rcases S.refOf hn v with ⟨h0, CO⟩ | ⟨o, b, iv, dv, K, ho, CO, -, SF, back⟩
 ·
  have e1 : H.inItems v i = false := by simp [HeapM.inItems, h0]
  have e2 : H.setAt v i x = H := by simp [HeapM.setAt, h0]
  rw [e1, e2]
  have HS := Lib.hid S
  have HCO := Lib.hid CO
  clear h0 CO S e1 e2
  simp only [V.val] at HCO ⊢
  go_enter Tryz.func108, Tryz.ntmps108
  go_wp2_with fail
  refine (HCO.out _ belowA).mono ?_
  rintro e w1 ⟨rfl, hb1⟩
  have HB := Lib.hid (show Below W.heap.size W w1 by exact Below.next belowA hb1 (by (try simp only [World.size_alloc, size_drew, size_drewN, size_setCell]); omega))
  clear hb1
  go_wp2
  go_ret
  exact ⟨rfl, HS.out.later HB.out⟩
 ·
  have S1 := Lib.hid ((SF.alloc (valObj v)).alloc (valObj x))
  simp only [World.size_alloc] at S1
  have HS := Lib.hid S
  have BK := Lib.hid back
  have HCO := Lib.hid CO
  obtain ⟨ia, ic, rfl⟩ := (SF.row 1 rfl).form
  have hcap := (SF.row 1 rfl).caps
  have hbig : (o.items.length : Int) ≤ 9223372036854775807 := by have := hcap; unfold maxLen at this; omega
  by_cases hin : 0 ≤ i ∧ i < o.items.length
  ·
   obtain ⟨n, rfl⟩ : ∃ n : Nat, i = n := ⟨i.toNat, by omega⟩
   have hnl : n < o.items.length := by omega
   have e1 : H.inItems v n = true := by simp [HeapM.inItems, ho, hnl]
   have e2 : H.setAt v n x = H.set v.n { o with items := o.items.set n x } := by simp [HeapM.setAt, ho, hnl]
   rw [e1, e2]
   obtain ⟨y, hy⟩ : ∃ y, o.items[n]? = some y := ⟨o.items[n], by simp [hnl]⟩
   obtain ⟨g, rfl⟩ := (show ∃ g, ia = some ⟨g, 0, none⟩ from by
    rcases (SF.row 1 rfl).shape with ⟨h1, h2⟩ | ⟨g, cap, h1, _⟩
    ·
     rw [h2] at hnl; simp at hnl
    ·
     exact ⟨g, (Value.slice.inj h1).1⟩)
   have HY := Lib.hid hy
   have hil : (n : Int) < o.items.length := by omega
   clear ho CO S e1 e2 SF back hcap hin hy
   simp only [V.val] at HCO ⊢
   go_enter Tryz.func108, Tryz.ntmps108
   go_wp2_with fail
   refine (HCO.out _ belowA).mono ?_
   rintro e w1 ⟨rfl, hb1⟩
   have T0 := S1.out.later hb1
   obtain ⟨x0, x1, x2, -⟩ := valBlkO (T0.box 0 rfl)
   have hx := blockLt (T0.box 0 rfl)
   have d4 := cellAt (T0.box 2 rfl) 4 (v := .slice (some ⟨g, 0, none⟩) o.items.length ic) rfl
   have hbw := World.block_lt_of_cell? _ _ d4
   have hrow := T0.row 3 rfl
   have m0 := hrow.cell V.cells_len rfl HY.out (j := 0) (u := .int .i64 y.kind) rfl
   have m1 := hrow.cell V.cells_len rfl HY.out (j := 1) (u := .int .i64 y.n) rfl
   have m2 := hrow.cell V.cells_len rfl HY.out (j := 2) (u := .string y.s) rfl
   rw [Nat.add_zero] at m0
   have hfr : ∀ j, w1.frozen? ⟨g, j, none⟩ = false := fun j => hrow.frozen rfl j
   have hgw := World.block_lt_of_cell? _ _ m0
   have T1 := T0.putPart 3 rfl V.cells_len HY.out (o := 0) (a' := x) (vs := x.cells) (by simp [V.cells]) (by simp [V.cells])
   rw [Nat.add_zero] at T1
   have FIN : Hid (Sep w (refR r (H.set v.n { o with items := o.items.set n x }) :: Rs) (w1.setCells g (n * 3) x.cells)) := Lib.hid (BK.out _ { o with items := o.items.set n x } (.slice (some ⟨g, 0, none⟩) (o.items.set n x).length ic) dv (by
    rw [List.length_set]
    exact T1.tail.tail))
   clear hb1 S1 T0 T1 hrow
   go_wp2
   go_region
   go_wp2
   go_ret
   exact ⟨rfl, FIN.out.drew⟩
  ·
   have e1 : H.inItems v i = false := by simp [HeapM.inItems, ho, hin]
   have e2 : H.setAt v i x = H := by simp [HeapM.setAt, ho, hin]
   rw [e1, e2]
   have c4 := cellAt (SF.box 0 rfl) 4 (v := .slice ia o.items.length ic) rfl
   have HC := Lib.hid (fun W1 (hb : Below W.heap.size W W1) => cellBelow c4 hb)
   clear ho CO S e1 e2 SF back hcap c4
   simp only [V.val] at HCO ⊢
   rcases Int.lt_or_le i 0 with hi0 | hi0
   ·
    clear hin
    go_enter Tryz.func108, Tryz.ntmps108
    go_wp2_with fail
    refine (HCO.out _ belowA).mono ?_
    rintro e w1 ⟨rfl, hb1⟩
    have hB : Below W.heap.size W w1 := by exact Below.next belowA hb1 (by (try simp only [World.size_alloc, size_drew, size_drewN, size_setCell]); omega)
    have d4 := HC.out w1 hB
    replace hB := Lib.hid hB
    clear hb1
    go_wp2
    go_ret
    exact ⟨rfl, HS.out.later hB.out⟩
   ·
    have hge : (o.items.length : Int) ≤ i := by omega
    clear hin
    go_enter Tryz.func108, Tryz.ntmps108
    go_wp2_with fail
    refine (HCO.out _ belowA).mono ?_
    rintro e w1 ⟨rfl, hb1⟩
    have hB : Below W.heap.size W w1 := by exact Below.next belowA hb1 (by (try simp only [World.size_alloc, size_drew, size_drewN, size_setCell]); omega)
    have d4 := HC.out w1 hB
    replace hB := Lib.hid hB
    clear hb1
    go_wp2
    go_ret
    exact ⟨rfl, HS.out.later hB.out⟩
end
end Go.Proofs.YtijlebhoapdfnaaGreat
