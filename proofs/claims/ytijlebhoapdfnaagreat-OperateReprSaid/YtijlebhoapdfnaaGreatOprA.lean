/- ch 16: what operators ask of a value. -/
import Derived.Test.YtijlebhoapdfnaaGreatTellA
set_option maxRecDepth 100000
set_option maxHeartbeats 1000000
namespace Go.Proofs.YtijlebhoapdfnaaGreat
set_option linter.unusedSimpArgs false
open Go.RowKit
set_option linter.unusedVariables false
/-- A drawn region that only reads, its callees too, in the class of worlds that keep what lies apart. -/
theorem wp_region_sep {w W : World} {Rs : List Res} {id : Nat} {Q : Exit → Act → World → Prop} {a : Act} {l : List Oper} (hm : Tryz.prog.follows .mixedOrders = true) (hB : Region.lexB .any l.toArray = true) (S : Sep w Rs W)
  (h : wpQuiet Tryz.prog l.toArray (fun w' => Sep w Rs w') (fun a' => ∀ w', Sep w Rs w' → Q .normal a' w') l a) : (Code.region id l.toArray true).wp Tryz.prog Q a W :=
 wp_region_quiet (C := fun w' => Sep w Rs w') hm hB S.drew (by simpa using h)
section
variable {w W : World} {Rs : List Res} {h : Nat} {H : HeapM}
theorem kind_at (S : Sep w Rs W) (i : Nat) (hi : Rs[i]? = some (heapR h H)) (v : V) (k : Int) (hk : H.kind v = k) : Calls Tryz.prog 72 #[.pointer (some ⟨h, 0, none⟩), .agg #[.int .i64 v.kind, .int .i64 v.n, .string v.s]] W fun e W' => e = .returned (.int .i64 k) ∧ Sep w Rs W' := by
 subst hk; exact (S.kind i hi v).mono fun e W' hh => ⟨hh.1, hh.2.1⟩
theorem len_at (S : Sep w Rs W) (i : Nat) (hi : Rs[i]? = some (heapR h H)) (v : V) (k : Nat) (hk : (H.items v).length = k) : Calls Tryz.prog 86 #[.pointer (some ⟨h, 0, none⟩), .agg #[.int .i64 v.kind, .int .i64 v.n, .string v.s]] W fun e W' => e = .returned (.int .i64 k) ∧ Sep w Rs W' := by
 subst hk; exact (S.len i hi v).mono fun e W' hh => ⟨hh.1, hh.2.1⟩
theorem size_at (S : Sep w Rs W) (i : Nat) (hi : Rs[i]? = some (heapR h H)) (v : V) (k : Nat) (hk : (H.pairs v).length = k) : Calls Tryz.prog 150 #[.pointer (some ⟨h, 0, none⟩), .agg #[.int .i64 v.kind, .int .i64 v.n, .string v.s]] W fun e W' => e = .returned (.int .i64 k) ∧ Sep w Rs W' := by
 subst hk; exact (S.size i hi v).mono fun e W' hh => ⟨hh.1, hh.2.1⟩
theorem wpVal {W : World} {b : Nat} (v : V) (h : W.heap[b]? = some (.cells #[.int .i64 v.kind, .int .i64 v.n, .string v.s] 24)) : W.cell? ⟨b, 0, none⟩ = some (.int .i64 v.kind) ∧ W.cell? ⟨b, 1, none⟩ = some (.int .i64 v.n) ∧ W.cell? ⟨b, 2, none⟩ = some (.string v.s) := ⟨cellAt h 0 rfl, cellAt h 1 rfl, cellAt h 2 rfl⟩
theorem row_ok (S : Sep w Rs W) (i : Nat) (hi : Rs[i]? = some (heapR h H)) (v : V) (r : Bool) (hr : H.rowB v = r) :
  Calls Tryz.prog 84 #[.pointer (some ⟨h, 0, none⟩), .agg #[.int .i64 v.kind, .int .i64 v.n, .string v.s]] W fun e W' => e = .returned (.bool r) ∧ Sep w Rs W' := by
 subst hr
 obtain ⟨b, hb⟩ : ∃ gx_, (W.heap.size) = gx_ := ⟨_, rfl⟩
 have S1 := (S.alloc (.cells #[.int .i64 v.kind, .int .i64 v.n, .string v.s] 24))
 simp only [World.size_alloc, hb] at S1
 obtain ⟨d00, d01, d02⟩ := wpVal v (S1.box (b := b) 0 rfl)
 obtain ⟨k, hk⟩ : ∃ k, H.kind v = k := ⟨_, rfl⟩
 have C1 := Lib.hid (kind_at S1 (i + 1) (by simpa using hi) v k hk)
 have e : H.rowB v = (decide (k = 1) || decide (k = 2)) := by unfold HeapM.rowB; rw [hk]
 rw [e]
 clear S S1 hi hk e
 go_enter Tryz.func84, Tryz.ntmps84
 go_wp2_with fail
 try simp only [hb]
 refine C1.out.mono ?_
 rintro e w1 ⟨rfl, S2⟩
 have HS := Lib.hid S2.tail
 clear C1 S2 d00 d01 d02 hb
 by_cases h1 : k = 1
 ·
  subst h1
  go_wp2
  go_ret
  exact ⟨rfl, HS.out⟩
 ·
  by_cases h2 : k = 2
  ·
   subst h2
   go_wp2
   go_ret
   exact ⟨rfl, HS.out⟩
  ·
   go_wp2
   go_ret
   exact ⟨by simp [h1, h2], HS.out⟩
theorem whole_ok (S : Sep w Rs W) (i : Nat) (hi : Rs[i]? = some (heapR h H)) (v : V) (r : Bool) (hr : H.wholeB v = r) :
  Calls Tryz.prog 64 #[.pointer (some ⟨h, 0, none⟩), .agg #[.int .i64 v.kind, .int .i64 v.n, .string v.s]] W fun e W' => e = .returned (.bool r) ∧ Sep w Rs W' := by
 subst hr
 obtain ⟨b, hb⟩ : ∃ gx_, (W.heap.size) = gx_ := ⟨_, rfl⟩
 have S1 := (S.alloc (.cells #[.int .i64 v.kind, .int .i64 v.n, .string v.s] 24))
 simp only [World.size_alloc, hb] at S1
 obtain ⟨d00, d01, d02⟩ := wpVal v (S1.box (b := b) 0 rfl)
 obtain ⟨r, hr⟩ : ∃ r, H.rowB v = r := ⟨_, rfl⟩
 obtain ⟨k, hk⟩ : ∃ k, H.kind v = k := ⟨_, rfl⟩
 have C1 := Lib.hid (row_ok S1 (i + 1) (by simpa using hi) v r hr)
 have C2 := Lib.hid (fun W (S2 : Sep w (boxV b v :: Rs) W) => kind_at S2 (i + 1) (by simpa using hi) v k hk)
 have e : H.wholeB v = (r || decide (k = 3)) := by unfold HeapM.wholeB; rw [hk, hr]
 rw [e]
 clear S S1 hi hk e hr
 go_enter Tryz.func64, Tryz.ntmps64
 go_wp2_with fail
 try simp only [hb]
 refine C1.out.mono ?_
 rintro e w1 ⟨rfl, S2⟩
 clear C1 d00 d01 d02 hb
 cases r with
 | true =>
  have HS := Lib.hid S2.tail
  clear S2
  go_wp2
  go_ret
  exact ⟨rfl, HS.out⟩
 | false =>
  obtain ⟨d00, d01, d02⟩ := wpVal v (S2.box (b := b) 0 rfl)
  have C3 := Lib.hid (C2.out _ S2)
  clear S2
  go_wp2_with fail
  refine C3.out.mono ?_
  rintro e w2 ⟨rfl, S3⟩
  have HS := Lib.hid S3.tail
  clear S3 d00 d01 d02
  by_cases h1 : k = 3
  ·
   subst h1
   go_wp2
   go_ret
   exact ⟨rfl, HS.out⟩
  ·
   go_wp2
   go_ret
   exact ⟨by simp [h1], HS.out⟩
theorem sizeB_ok (S : Sep w Rs W) (i : Nat) (hi : Rs[i]? = some (heapR h H)) (v : V) (n : Nat) (hn : H.sizeB v = n) :
  Calls Tryz.prog 65 #[.pointer (some ⟨h, 0, none⟩), .agg #[.int .i64 v.kind, .int .i64 v.n, .string v.s]] W fun e W' => e = .returned (.int .i64 n) ∧ Sep w Rs W' := by
 subst hn
 obtain ⟨b, hb⟩ : ∃ gx_, (W.heap.size) = gx_ := ⟨_, rfl⟩
 have S1 := (S.alloc (.cells #[.int .i64 v.kind, .int .i64 v.n, .string v.s] 24))
 simp only [World.size_alloc, hb] at S1
 obtain ⟨d00, d01, d02⟩ := wpVal v (S1.box (b := b) 0 rfl)
 obtain ⟨k, hk⟩ : ∃ k, H.kind v = k := ⟨_, rfl⟩
 obtain ⟨m1, hm1⟩ : ∃ k, (H.pairs v).length = k := ⟨_, rfl⟩
 obtain ⟨m2, hm2⟩ : ∃ k, (H.items v).length = k := ⟨_, rfl⟩
 have C1 := Lib.hid (kind_at S1 (i + 1) (by simpa using hi) v k hk)
 have C2 := Lib.hid (fun W (S2 : Sep w (boxV b v :: Rs) W) => size_at S2 (i + 1) (by simpa using hi) v m1 hm1)
 have C3 := Lib.hid (fun W (S2 : Sep w (boxV b v :: Rs) W) => len_at S2 (i + 1) (by simpa using hi) v m2 hm2)
 have e : H.sizeB v = if k = 3 then m1 else m2 := by unfold HeapM.sizeB; rw [hk, hm1, hm2]
 rw [e]
 clear S S1 hi hk e hm1 hm2
 go_enter Tryz.func65, Tryz.ntmps65
 go_wp2_with fail
 try simp only [hb]
 refine C1.out.mono ?_
 rintro e w1 ⟨rfl, S2⟩
 clear C1 d00 d01 d02 hb
 obtain ⟨d00, d01, d02⟩ := wpVal v (S2.box (b := b) 0 rfl)
 by_cases h1 : k = 3
 ·
  subst h1
  have C4 := Lib.hid (C2.out _ S2)
  clear S2
  go_wp2_with fail
  refine C4.out.mono ?_
  rintro e w2 ⟨rfl, S3⟩
  have HS := Lib.hid S3.tail
  clear S3 d00 d01 d02
  go_wp2
  go_ret
  exact ⟨rfl, HS.out⟩
 ·
  have C4 := Lib.hid (C3.out _ S2)
  clear S2
  go_wp2_with fail
  refine C4.out.mono ?_
  rintro e w2 ⟨rfl, S3⟩
  have HS := Lib.hid S3.tail
  clear S3 d00 d01 d02
  go_wp2
  go_ret
  exact ⟨by simp [h1], HS.out⟩
end
end Go.Proofs.YtijlebhoapdfnaaGreat
