/- ch 16: one, same. -/
import Derived.Test.YtellmfimmghidaaGreatOprA
namespace Go.Proofs.YtellmfimmghidaaGreat
set_option linter.unusedSimpArgs false
open Go.RowKit
set_option linter.unusedVariables false
section
attribute [local go_sem] Oper.semAt_some
theorem eql_vals (W : World) (x y : V) (b : Bool) (hb : decide (x = y) = b) : (binOp .eql 29 (.agg #[.int .i64 x.kind, .int .i64 x.n, .string x.s]) (.agg #[.int .i64 y.kind, .int .i64 y.n, .string y.s])).run Tryz.prog W = .ok (.bool b) W := by
  go_simp
  have hx := V.eq_iff x y
  subst hb
  by_cases h1 : x.kind = y.kind
  · by_cases h2 : x.n = y.n
    · by_cases h3 : x.s.toList = y.s.toList
      · simp [h1, h2, h3, hx]
      · simp [h1, h2, h3, hx]
    · simp [h1, h2, hx]
  · simp [h1, hx]
end
section
variable {w W : World} {Rs : List Res} {h : Nat} {H : HeapM}
set_option maxRecDepth 100000 in
set_option maxHeartbeats 2000000 in
theorem one_ok (S : Sep w Rs W) (i : Nat) (hi : Rs[i]? = some (heapR h H)) (x y : V) (r : Bool) (hr : H.oneB x y = r) :
    Calls Tryz.prog 45 #[.pointer (some ⟨h, 0, none⟩), .agg #[.int .i64 x.kind, .int .i64 x.n, .string x.s], .agg #[.int .i64 y.kind, .int .i64 y.n, .string y.s]] W fun e W' => e = .returned (.bool r) ∧ Sep w Rs W' := by
  subst hr
  obtain ⟨b, hb⟩ : ∃ gx_, (W.heap.size) = gx_ := ⟨_, rfl⟩
  have S1 := (S.alloc (.cells #[.int .i64 x.kind, .int .i64 x.n, .string x.s] 29)).alloc (.cells #[.int .i64 y.kind, .int .i64 y.n, .string y.s] 29)
  simp only [World.size_alloc, hb] at S1
  obtain ⟨d00, d01, d02⟩ := wpVal x (S1.box (b := b) 1 rfl)
  obtain ⟨d10, d11, d12⟩ := wpVal y (S1.box (b := b + 1) 0 rfl)
  obtain ⟨k, hk⟩ : ∃ k, H.kind x = k := ⟨_, rfl⟩
  obtain ⟨m, hm⟩ : ∃ k, H.kind y = k := ⟨_, rfl⟩
  have C1 := Lib.hid (fun W (S2 : Sep w (boxV (b + 1) y :: boxV b x :: Rs) W) => kind_at S2 (i + 2) (by simpa using hi) x k hk)
  have C2 := Lib.hid (fun W (S2 : Sep w (boxV (b + 1) y :: boxV b x :: Rs) W) => kind_at S2 (i + 2) (by simpa using hi) y m hm)
  have e : H.oneB x y = if k = 0 ∧ m = 0 then decide (x = y) else decide (k ≠ 0) && (decide (m ≠ 0) && decide (x.n = y.n)) := by unfold HeapM.oneB; rw [hk, hm]
  rw [e]
  have EQ := eql_vals (x := x) (y := y) (b := decide (x = y)) (hb := rfl)
  have M1 := Lib.hid (C1.out _ S1)
  clear S S1 hi hk hm e
  go_enter Tryz.func45, Tryz.ntmps45
  go_wp2_with fail
  try simp only [World.size_alloc, hb]
  refine M1.out.mono ?_
  rintro e w1 ⟨rfl, S2⟩
  clear M1 d00 d01 d02 d10 d11 d12 hb
  obtain ⟨d00, d01, d02⟩ := wpVal x (S2.box (b := b) 1 rfl)
  obtain ⟨d10, d11, d12⟩ := wpVal y (S2.box (b := b + 1) 0 rfl)
  by_cases h1 : k = 0
  · subst h1
    have M2 := Lib.hid (C2.out _ S2)
    clear S2
    go_wp2_with fail
    refine M2.out.mono ?_
    rintro e w2 ⟨rfl, S3⟩
    clear M2 d00 d01 d02 d10 d11 d12
    obtain ⟨d00, d01, d02⟩ := wpVal x (S3.box (b := b) 1 rfl)
    obtain ⟨d10, d11, d12⟩ := wpVal y (S3.box (b := b + 1) 0 rfl)
    by_cases h2 : m = 0
    · subst h2
      have HS := Lib.hid S3.tail.tail
      clear S3
      go_wp2
      go_ret
      exact ⟨by simp, HS.out⟩
    · have M3 := Lib.hid (C1.out _ S3)
      clear S3
      go_wp2_with fail
      refine M3.out.mono ?_
      rintro e w3 ⟨rfl, S4⟩
      have HS := Lib.hid S4.tail.tail
      clear S4 M3 d00 d01 d02 d10 d11 d12
      go_wp2
      go_ret
      exact ⟨by simp [h2], HS.out⟩
  · have M3 := Lib.hid (C1.out _ S2)
    clear S2
    go_wp2_with fail
    refine M3.out.mono ?_
    rintro e w3 ⟨rfl, S4⟩
    clear M3 d00 d01 d02 d10 d11 d12
    obtain ⟨d00, d01, d02⟩ := wpVal x (S4.box (b := b) 1 rfl)
    obtain ⟨d10, d11, d12⟩ := wpVal y (S4.box (b := b + 1) 0 rfl)
    have M4 := Lib.hid (C2.out _ S4)
    clear S4
    go_wp2_with fail
    refine M4.out.mono ?_
    rintro e w4 ⟨rfl, S5⟩
    clear M4 d00 d01 d02 d10 d11 d12
    obtain ⟨d00, d01, d02⟩ := wpVal x (S5.box (b := b) 1 rfl)
    obtain ⟨d10, d11, d12⟩ := wpVal y (S5.box (b := b + 1) 0 rfl)
    have HS := Lib.hid S5.tail.tail
    clear S5
    by_cases h2 : m = 0
    · subst h2
      go_wp2
      go_ret
      exact ⟨by simp [h1], HS.out⟩
    · go_wp2
      go_ret
      exact ⟨by simp [h1, h2, BEq.beq], HS.out⟩
end
end Go.Proofs.YtellmfimmghidaaGreat
