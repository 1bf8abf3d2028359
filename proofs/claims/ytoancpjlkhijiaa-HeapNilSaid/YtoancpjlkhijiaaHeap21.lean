/- The heap: Live. -/
import Derived.Test.YtoancpjlkhijiaaHeap20
import Derived.Deep.LoopGhost
namespace Go.Proofs.Ytoancpjlkhijiaa
open Go.RowKit
set_option linter.unusedVariables false
def HeapM.live (H : HeapM) (k : Int) : Nat := (H.objs.filter fun p => decide (k = 0) || decide (p.2.kind = k)).length
/-- Is the object of this row of the map counted? -/
def kindIs (rows : List HRow) (k : Int) (p : Int × Nat) : Bool := decide (k = 0) || rows.any fun q => decide (q.n = p.1) && decide (q.o.kind = k)
theorem kindIs_mem {rows : List HRow} (hn : (rows.map (·.n)).Nodup) (k : Int) {q : HRow} (hq : q ∈ rows) (b : Nat) : kindIs rows k (q.n, b) = (decide (k = 0) || decide (q.o.kind = k)) := by
  unfold kindIs
  congr 1
  rw [Bool.eq_iff_iff]
  simp only [decide_eq_true_eq, List.any_eq_true, Bool.and_eq_true]
  constructor
  · rintro ⟨q', hq', h1, h2⟩
    have hnn : ((rows.map fun q => (q.n, q)).map (·.1)).Nodup := by simpa [List.map_map, Function.comp_def] using hn
    have e1 := getL_of_mem hnn (k := q.n) (x := q) (List.mem_map.2 ⟨q, hq, rfl⟩)
    have e2 := getL_of_mem hnn (k := q'.n) (x := q') (List.mem_map.2 ⟨q', hq', rfl⟩)
    have : q' = q := by rw [h1, e1] at e2; exact (Option.some.inj e2).symm
    rw [← this]; exact h2
  · intro h; exact ⟨q, hq, rfl, h⟩
theorem live_rows {rows : List HRow} (hn : (rows.map (·.n)).Nodup) (k : Int) : ((rows.map fun q => (q.n, q.o)).filter fun p => decide (k = 0) || decide (p.2.kind = k)).length = ((rows.map fun q => (q.n, q.b)).filter (kindIs rows k)).length := by
  rw [List.filter_map, List.filter_map, List.length_map, List.length_map]
  congr 1
  refine List.filter_congr fun q hq => ?_
  simp only [Function.comp, kindIs_mem hn k hq]
structure LiveAt (w : World) (h : Nat) (H : HeapM) (ma : Nat) (obs : List (Int × Nat)) (rows : List HRow) : Prop where
  c0 : w.cell? ⟨h, 0, none⟩ = some (.map (some ma))
  hm : mapIs w Try.prog 2 ekI exP ma obs
  obj : ∀ q ∈ rows, w.cell? ⟨q.b, 0, none⟩ = some (.int .i64 q.o.kind)
  eq : obs = rows.map fun q => (q.n, q.b)
  eo : H.objs = rows.map fun q => (q.n, q.o)
  nd : (rows.map (·.n)).Nodup
theorem HeapIs.liveAt {w : World} {h : Nat} {H : HeapM} {ε : Int → Int} {F : List Nat} (hh : HeapIs w h H ε F) : ∃ ma obs rows, LiveAt w h H ma obs rows := by
  obtain ⟨ma, mr, rows, r, h1, h2, h3, h4, h5, h6, h7, h8⟩ := hh
  refine ⟨ma, _, rows, cellAt h1 0 rfl, h2, fun q hq => ?_, rfl, h5, ?_⟩
  · obtain ⟨rv, d, G, k1, _⟩ := h4 q hq
    exact cellAt k1 0 rfl
  · have := h2.nodup; simpa [List.map_map, Function.comp_def] using this
def LiveRel (w : World) (ma : Nat) (rows : List HRow) (k : Int) (total g : Nat) (n : Value) (wr : World) : Prop :=
  ∃ left, g = left.length ∧ iterIs wr Try.prog 2 ekI exP ma w.heap.size (rows.map fun q => (q.n, q.b)) left ∧ (∀ p ∈ left, p ∈ rows.map fun q => (q.n, q.b)) ∧ (∃ m : Nat, n = .int .i64 m ∧ m + (left.filter (kindIs rows k)).length = total) ∧ Below w.heap.size w wr
set_option maxRecDepth 100000 in
set_option maxHeartbeats 800000 in
theorem heap_live (w : World) (h : Nat) (k : Int) {H : HeapM} {ε : Int → Int} {F : List Nat} (hh : HeapIs w h H ε F) (hsmall : H.objs.length ≤ 1000000000) :
    Calls Try.prog 32 #[.pointer (some ⟨h, 0, none⟩), .int .i64 k] w fun e w' => e = .returned (.int .i64 (H.live k)) ∧ Below w.heap.size w w' := by
  obtain ⟨ma, obs, rows, L⟩ := hh.liveAt
  have hl : H.live k = ((rows.map fun q => (q.n, q.b)).filter (kindIs rows k)).length := by
    unfold HeapM.live; rw [L.eo]; exact live_rows L.nd k
  have hlen : rows.length ≤ 1000000000 := by have := hsmall; rw [L.eo, List.length_map] at this; exact this
  rw [hl]
  have hobs := L.eq
  subst hobs
  have LL := Lib.hid L
  have c0 := L.c0
  have HLEN := Lib.hid hlen
  have hmal := L.hm.lt
  clear hl hh L hsmall hlen
  obtain ⟨total, htot⟩ : ∃ t, ((rows.map fun q => (q.n, q.b)).filter (kindIs rows k)).length = t := ⟨_, rfl⟩
  rw [htot]
  have HTOT := Lib.hid htot
  clear htot
  go_enter Try.func32, Try.ntmps32
  go_wp2_with (at_range; refine wpList_range_is rfl _ 72 rfl 77 Try.underlying72 rfl LL.out.hm ?_; intro w1 i1 i2 i3)
  have hb1 : Below w.heap.size w w1 := ⟨i2.os, i2.tape, i2.output, i2.size, fun b hb => i2.block b hb (by simp)⟩
  have hsz1 : w.heap.size < w1.heap.size := by omega
  have hst : LiveRel w ma rows k total (rows.map fun q => (q.n, q.b)).length (.int .i64 (0 : Int)) w1 := ⟨_, rfl, i1, fun p hp => hp, ⟨0, rfl, by simpa using HTOT.out⟩, hb1⟩
  have HST := Lib.hid hst
  clear hst i1 i2 i3 hb1 hsz1
  go_frame
  go_loopg [5] (rows.map fun q => (q.n, q.b)).length (fun g n wr => LiveRel w ma rows k total g n wr)
  case atStart => exact HST.out
  case round =>
    clear HST
    obtain ⟨left, rfl, d1, d2, ⟨m, rfl, hm⟩, d3⟩ := hrel
    have D1 := Lib.hid d1
    have hml : m ≤ rows.length := by
      have h1 := HTOT.out
      have h2 := List.length_filter_le (kindIs rows k) (rows.map fun q => (q.n, q.b))
      rw [List.length_map] at h2
      omega
    have hbig : (m : Int) ≤ 1000000000 := by have := HLEN.out; omega
    have HM := Lib.hid (And.intro hm (And.intro d2 d3))
    clear d1 d2 d3 hm hml
    go_wp2_with (at_next; refine wpList_next_is rfl _ rfl rfl D1.out ?_ ?_)
    · intro hnil
      have HN := Lib.hid hnil
      clear hnil
      go_wp2
      go_ret
      have := HM.out.1
      rw [HN.out] at this
      exact ⟨ret_i (by simp at this; omega), HM.out.2.2⟩
    · intro pk px left' w2 hp hi ho he
      obtain ⟨hm, d2, d3⟩ := HM.out
      obtain ⟨q, hq, hqe⟩ := List.mem_map.1 (d2 (pk, px) (hp.mem_iff.2 (by simp)))
      cases hqe
      have hcell := LL.out.obj q hq
      have hqb := World.block_lt_of_cell? w _ hcell
      have hB2 : Below w.heap.size w w2 := ⟨ho.2.os.trans d3.os, ho.2.tape.trans d3.tape, ho.2.output.trans d3.output, by have := d3.size; have := ho.1; omega, fun b hb => by
        rw [ho.2.block b (by have := d3.size; omega) (by simp; omega)]; exact d3.block b hb⟩
      have cell2 := cellBelow hcell hB2
      have hkm := kindIs_mem LL.out.nd k hq q.b
      have hlen' : left.length = left'.length + 1 := by have := hp.length_eq; simpa using this
      have hfil : (left.filter (kindIs rows k)).length = (left'.filter (kindIs rows k)).length + (decide (k = 0) || decide (q.o.kind = k)).toNat := by
        rw [(hp.filter _).length_eq, List.filter_cons, hkm]
        cases (decide (k = 0) || decide (q.o.kind = k)) <;> simp
      have HX := Lib.hid (And.intro hlen' (And.intro hfil (And.intro hi (And.intro hB2 (And.intro hm (fun p (hp' : p ∈ left') => d2 p (hp.mem_iff.2 (by simp [hp']))))))))
      clear hkm hlen' hfil hi hB2 hm d2 d3 hp ho hcell hqb hq
      simp only [ekI, exP] at he
      by_cases hk0 : k = 0
      · have hk0' : (k == 0) = true := by simp [hk0]
        have HK0 := Lib.hid hk0
        clear hk0
        go_wp2
        obtain ⟨e1, e2, e3, e4, e5, e6⟩ := HX.out
        go_roundg left'.length
        case rel => exact ⟨left', rfl, e3, e6, ⟨m + 1, by go_num, by rw [show (decide (k = 0) || decide (q.o.kind = k)) = true by simp [HK0.out]] at e2; simp only [Bool.toNat_true] at e2; omega⟩, e4⟩
        all_goals omega
      · have hk0' : (k == 0) = false := by simp [hk0]
        by_cases hk1 : q.o.kind = k
        · have hk1' : (q.o.kind == k) = true := by simp [hk1]
          have HK1 := Lib.hid hk1
          clear hk1 hk0
          go_wp2
          obtain ⟨e1, e2, e3, e4, e5, e6⟩ := HX.out
          go_roundg left'.length
          case rel => exact ⟨left', rfl, e3, e6, ⟨m + 1, by go_num, by simp [HK1.out] at e2; omega⟩, e4⟩
          all_goals omega
        · have hk1' : (q.o.kind == k) = false := by simp [hk1]
          have HK1 := Lib.hid (And.intro hk0 hk1)
          clear hk1 hk0
          go_wp2
          obtain ⟨e1, e2, e3, e4, e5, e6⟩ := HX.out
          go_roundg left'.length
          case rel => exact ⟨left', rfl, e3, e6, ⟨m, rfl, by simp [HK1.out.1, HK1.out.2] at e2; omega⟩, e4⟩
          all_goals omega
end Go.Proofs.Ytoancpjlkhijiaa
