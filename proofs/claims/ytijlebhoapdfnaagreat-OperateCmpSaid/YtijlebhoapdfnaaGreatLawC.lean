import Derived.Test.YtijlebhoapdfnaaGreatOprD
import Derived.Test.YtijlebhoapdfnaaGreatCmpT
import Derived.Test.YtijlebhoapdfnaaGreatText1
import Derived.Test.YtijlebhoapdfnaaGreatLawO
/- ch 16: <, <=, >, >=. -/
set_option maxRecDepth 100000
set_option maxHeartbeats 4000000
namespace Go.Proofs.YtijlebhoapdfnaaGreat
set_option linter.unusedSimpArgs false
open Go.RowKit
set_option linter.unusedVariables false
/-- What an order tells of a comparison's sign. -/
def ordB (lo eq : Bool) (c : Int) : Bool := (decide (c = 0) && eq) || (!decide (c = 0) && (decide (c < 0) == lo))
def ordRes (lo eq : Bool) (x y : V) : CmpRes :=
 if x.kind = 2 ∧ y.kind = 2 then .ok (ordB lo eq (cmpB x.n y.n))
 else if x.kind = 3 ∧ y.kind = 3 then .ok (ordB lo eq (cmpL x.s.data.toList y.s.data.toList))
 else .type
section
variable {w W : World} {Rs : List Res} {h : Nat} {H : HeapM}
theorem cmpInt_ok (W : World) (x y : Int) : Calls Tryz.prog 161 #[.int .i64 x, .int .i64 y] W fun e W' => e = .returned (.int .i64 (cmpB x y)) ∧ W' = W := by
 unfold cmpB
 by_cases h1 : x < y
 ·
  rw [if_pos h1]
  go_enter Tryz.func161, Tryz.ntmps161
  go_wp2
  go_ret
  exact ⟨rfl, rfl⟩
 ·
  rw [if_neg h1]
  by_cases h2 : x > y
  ·
   rw [if_pos h2]
   go_enter Tryz.func161, Tryz.ntmps161
   go_wp2
   go_ret
   exact ⟨rfl, rfl⟩
  ·
   rw [if_neg h2]
   go_enter Tryz.func161, Tryz.ntmps161
   go_wp2
   go_ret
   exact ⟨rfl, rfl⟩
theorem orderOp_ok (lo eq : Bool) (qb i : Nat) (S : Sep w Rs W) (hi : Rs[i]? = some (heapR h H)) (h1 : ∃ j : Nat, Rs[j]? = some (boxR qb (.cells #[.bool lo] 4))) (h2 : ∃ j : Nat, Rs[j]? = some (boxR (qb + 1) (.cells #[.bool eq] 4))) (x y : V) :
  Calls Tryz.prog 160 #[.pointer (some ⟨h, 0, none⟩), .agg #[.int .i64 x.kind, .int .i64 x.n, .string x.s], .agg #[.int .i64 y.kind, .int .i64 y.n, .string y.s], .pointer (some ⟨qb + 1, 0, none⟩), .pointer (some ⟨qb, 0, none⟩)] W fun e W' => e = .returned (ordRes lo eq x y).val ∧ Sep w Rs W' := by
 obtain ⟨b, hb⟩ : ∃ gx_, (W.heap.size) = gx_ := ⟨_, rfl⟩
 have S1 := ((S.alloc (.cells #[.int .i64 x.kind, .int .i64 x.n, .string x.s] 24)).alloc (.cells #[.int .i64 y.kind, .int .i64 y.n, .string y.s] 24)).alloc (.cells #[.string ⟨#[]⟩, .int .i64 0, .int .i64 0, .string ⟨#[]⟩, .bool false] 33)
 simp only [World.size_alloc, hb] at S1
 replace S1 : Sep w (boxE (b + 1 + 1) :: boxV (b + 1) y :: boxV b x :: Rs) _ := S1
 obtain ⟨j1, h1⟩ := h1
 obtain ⟨j2, h2⟩ := h2
 have KC : Hid (∀ W, Sep w (boxE (b + 1 + 1) :: boxV (b + 1) y :: boxV b x :: Rs) W → W.cell? ⟨qb, 0, none⟩ = some (.bool lo) ∧ W.cell? ⟨qb + 1, 0, none⟩ = some (.bool eq)) := Lib.hid fun W S => ⟨cellAt (S.box (j1 + 3) (by simpa using h1)) 0 rfl, cellAt (S.box (j2 + 3) (by simpa using h2)) 0 rfl⟩
 obtain ⟨d00, d01, d02⟩ := wpVal x (S1.box (b := b) 2 rfl)
 obtain ⟨d10, d11, d12⟩ := wpVal y (S1.box (b := b + 1) 1 rfl)
 have KI : Hid (∀ W, Sep w (boxE (b + 1 + 1) :: boxV (b + 1) y :: boxV b x :: Rs) W → Calls Tryz.prog 161 #[.int .i64 x.n, .int .i64 y.n] W fun e W' => e = .returned (.int .i64 (cmpB x.n y.n)) ∧ Sep w (boxE (b + 1 + 1) :: boxV (b + 1) y :: boxV b x :: Rs) W') := Lib.hid fun W S => (cmpInt_ok W _ _).mono fun e W' ⟨e1, e2⟩ => ⟨e1, by rw [e2]; exact S⟩
 have KS : Hid (∀ W, Sep w (boxE (b + 1 + 1) :: boxV (b + 1) y :: boxV b x :: Rs) W → Calls Tryz.prog 162 #[.string x.s, .string y.s] W fun e W' => e = .returned (.int .i64 (cmpL x.s.data.toList y.s.data.toList)) ∧ Sep w (boxE (b + 1 + 1) :: boxV (b + 1) y :: boxV b x :: Rs) W') := Lib.hid fun W S => (compare_i x.s y.s W x.hs y.hs).mono fun e W' ⟨e1, e2⟩ => ⟨e1, S.later e2⟩
 have KR : Hid (∀ W, Sep w (boxE (b + 1 + 1) :: boxV (b + 1) y :: boxV b x :: Rs) W → Calls Tryz.prog 87 #[.string typeError] W fun e W' => e = .returned (excN typeError) ∧ Sep w (boxE (b + 1 + 1) :: boxV (b + 1) y :: boxV b x :: Rs) W') := Lib.hid fun W S => (raise_ok W _).mono fun e W' ⟨e1, e2⟩ => ⟨e1, S.later e2⟩
 have c3 : ∀ c : Int, (c = 0 ∨ c = 1 ∨ c = -1) → True := fun _ _ => trivial
 have HO : Hid (ordRes lo eq x y = if x.kind = 2 ∧ y.kind = 2 then .ok (ordB lo eq (cmpB x.n y.n))
  else if x.kind = 3 ∧ y.kind = 3 then .ok (ordB lo eq (cmpL x.s.data.toList y.s.data.toList)) else .type) := Lib.hid rfl
 obtain ⟨rr, hrr⟩ : ∃ r, ordRes lo eq x y = r := ⟨_, rfl⟩
 rw [hrr] at HO ⊢
 clear hrr c3
 have H1 := Lib.hid S1
 clear S S1 h1 h2 hi
 by_cases hx2 : x.kind = 2
 ·
  have g1 : (x.kind == 2) = true := by simp [hx2]
  by_cases hy2 : y.kind = 2
  ·
   have g2 : (y.kind == 2) = true := by simp [hy2]
   have HR : Hid (rr = .ok (ordB lo eq (cmpB x.n y.n))) := Lib.hid (by rw [HO.out, if_pos ⟨hx2, hy2⟩])
   clear HO hx2 hy2
   go_enter Tryz.func160, Tryz.ntmps160
   have M := Lib.hid (KI.out _ H1.out)
   go_wp2_with fail
   try simp only [World.size_alloc, hb]
   refine M.out.mono ?_
   rintro e w1 ⟨rfl, S⟩
   clear M d00 d01 d02 d10 d11 d12
   obtain ⟨c, hc⟩ : ∃ c, cmpB x.n y.n = c := ⟨_, rfl⟩
   have hc3 : c = 0 ∨ c = 1 ∨ c = -1 := by rw [← hc]; exact (by unfold cmpB; split; exact .inr (.inr rfl); split; exact .inr (.inl rfl); exact .inl rfl)
   rw [hc] at HR ⊢
   clear hc
   rcases hc3 with rfl | rfl | rfl
   ·
    cases eq with
    | false =>
     have hz := S.box (b := b + 1 + 1) 0 rfl
     have z0 := cellAt hz 0 (v := .string ⟨#[]⟩) rfl
     have z1 := cellAt hz 1 (v := .int .i64 0) rfl
     have z2 := cellAt hz 2 (v := .int .i64 0) rfl
     have z3 := cellAt hz 3 (v := .string ⟨#[]⟩) rfl
     have z4 := cellAt hz 4 (v := .bool false) rfl
     have z5 := frozenAt hz 0
     have z6 := frozenAt hz 1
     have z7 := frozenAt hz 2
     have z8 := frozenAt hz 3
     have z9 := frozenAt hz 4
     obtain ⟨k0, k1⟩ := KC.out _ S
     have S9 := Lib.hid (S.toAny (q := b + 1 + 1) 0 rfl)
     have FR : Hid (∀ W', Sep w (anyR (b + 1 + 1) :: boxV (b + 1) y :: boxV b x :: Rs) W' → Sep w Rs W') := Lib.hid fun W' T => T.tail.tail.tail
     clear S hz
     go_wp2
     refine bodyPost_ret (v := .tuple #[.bool false, excZ]) ?_ ?_ ?_
     ·
      simp [results, Tryz.results160, go_sem, z0, z1, z2, z3, z4]
     ·
      rfl
     refine ⟨by rw [HR.out]; rfl, FR.out _ ?_⟩
     iterate 5 refine Sep.poke (q := b + 1 + 1) ?_ 0 rfl _ _
     exact S9.out
    | true =>
     have hz := S.box (b := b + 1 + 1) 0 rfl
     have z0 := cellAt hz 0 (v := .string ⟨#[]⟩) rfl
     have z1 := cellAt hz 1 (v := .int .i64 0) rfl
     have z2 := cellAt hz 2 (v := .int .i64 0) rfl
     have z3 := cellAt hz 3 (v := .string ⟨#[]⟩) rfl
     have z4 := cellAt hz 4 (v := .bool false) rfl
     have z5 := frozenAt hz 0
     have z6 := frozenAt hz 1
     have z7 := frozenAt hz 2
     have z8 := frozenAt hz 3
     have z9 := frozenAt hz 4
     obtain ⟨k0, k1⟩ := KC.out _ S
     have S9 := Lib.hid (S.toAny (q := b + 1 + 1) 0 rfl)
     have FR : Hid (∀ W', Sep w (anyR (b + 1 + 1) :: boxV (b + 1) y :: boxV b x :: Rs) W' → Sep w Rs W') := Lib.hid fun W' T => T.tail.tail.tail
     clear S hz
     go_wp2
     refine bodyPost_ret (v := .tuple #[.bool true, excZ]) ?_ ?_ ?_
     ·
      simp [results, Tryz.results160, go_sem, z0, z1, z2, z3, z4]
     ·
      rfl
     refine ⟨by rw [HR.out]; rfl, FR.out _ ?_⟩
     iterate 5 refine Sep.poke (q := b + 1 + 1) ?_ 0 rfl _ _
     exact S9.out
   ·
    have hz := S.box (b := b + 1 + 1) 0 rfl
    have z0 := cellAt hz 0 (v := .string ⟨#[]⟩) rfl
    have z1 := cellAt hz 1 (v := .int .i64 0) rfl
    have z2 := cellAt hz 2 (v := .int .i64 0) rfl
    have z3 := cellAt hz 3 (v := .string ⟨#[]⟩) rfl
    have z4 := cellAt hz 4 (v := .bool false) rfl
    have z5 := frozenAt hz 0
    have z6 := frozenAt hz 1
    have z7 := frozenAt hz 2
    have z8 := frozenAt hz 3
    have z9 := frozenAt hz 4
    obtain ⟨k0, k1⟩ := KC.out _ S
    have S9 := Lib.hid (S.toAny (q := b + 1 + 1) 0 rfl)
    have FR : Hid (∀ W', Sep w (anyR (b + 1 + 1) :: boxV (b + 1) y :: boxV b x :: Rs) W' → Sep w Rs W') := Lib.hid fun W' T => T.tail.tail.tail
    clear S hz
    cases lo with
    | false =>
     go_wp2
     refine bodyPost_ret (v := .tuple #[.bool true, excZ]) ?_ ?_ ?_
     ·
      simp [results, Tryz.results160, go_sem, z0, z1, z2, z3, z4]
     ·
      rfl
     refine ⟨by rw [HR.out]; rfl, FR.out _ ?_⟩
     iterate 5 refine Sep.poke (q := b + 1 + 1) ?_ 0 rfl _ _
     exact S9.out
    | true =>
     go_wp2
     refine bodyPost_ret (v := .tuple #[.bool false, excZ]) ?_ ?_ ?_
     ·
      simp [results, Tryz.results160, go_sem, z0, z1, z2, z3, z4]
     ·
      rfl
     refine ⟨by rw [HR.out]; rfl, FR.out _ ?_⟩
     iterate 5 refine Sep.poke (q := b + 1 + 1) ?_ 0 rfl _ _
     exact S9.out
   ·
    have hz := S.box (b := b + 1 + 1) 0 rfl
    have z0 := cellAt hz 0 (v := .string ⟨#[]⟩) rfl
    have z1 := cellAt hz 1 (v := .int .i64 0) rfl
    have z2 := cellAt hz 2 (v := .int .i64 0) rfl
    have z3 := cellAt hz 3 (v := .string ⟨#[]⟩) rfl
    have z4 := cellAt hz 4 (v := .bool false) rfl
    have z5 := frozenAt hz 0
    have z6 := frozenAt hz 1
    have z7 := frozenAt hz 2
    have z8 := frozenAt hz 3
    have z9 := frozenAt hz 4
    obtain ⟨k0, k1⟩ := KC.out _ S
    have S9 := Lib.hid (S.toAny (q := b + 1 + 1) 0 rfl)
    have FR : Hid (∀ W', Sep w (anyR (b + 1 + 1) :: boxV (b + 1) y :: boxV b x :: Rs) W' → Sep w Rs W') := Lib.hid fun W' T => T.tail.tail.tail
    clear S hz
    cases lo with
    | false =>
     go_wp2
     refine bodyPost_ret (v := .tuple #[.bool false, excZ]) ?_ ?_ ?_
     ·
      simp [results, Tryz.results160, go_sem, z0, z1, z2, z3, z4]
     ·
      rfl
     refine ⟨by rw [HR.out]; rfl, FR.out _ ?_⟩
     iterate 5 refine Sep.poke (q := b + 1 + 1) ?_ 0 rfl _ _
     exact S9.out
    | true =>
     go_wp2
     refine bodyPost_ret (v := .tuple #[.bool true, excZ]) ?_ ?_ ?_
     ·
      simp [results, Tryz.results160, go_sem, z0, z1, z2, z3, z4]
     ·
      rfl
     refine ⟨by rw [HR.out]; rfl, FR.out _ ?_⟩
     iterate 5 refine Sep.poke (q := b + 1 + 1) ?_ 0 rfl _ _
     exact S9.out
  ·
   have g2 : (y.kind == 2) = false := by simp [hy2]
   have g3 : (x.kind == 3) = false := by simp [hx2]
   have HR : Hid (rr = .type) := Lib.hid (by rw [HO.out, if_neg (fun e => hy2 e.2), if_neg (fun e => by omega)])
   clear HO hx2 hy2
   go_enter Tryz.func160, Tryz.ntmps160
   have M := Lib.hid (KR.out _ H1.out)
   go_wp2_with fail
   try simp only [World.size_alloc, hb]
   refine M.out.mono ?_
   rintro e w1 ⟨rfl, S⟩
   clear M d00 d01 d02 d10 d11 d12
   have hz := S.box (b := b + 1 + 1) 0 rfl
   have z0 := cellAt hz 0 (v := .string ⟨#[]⟩) rfl
   have z1 := cellAt hz 1 (v := .int .i64 0) rfl
   have z2 := cellAt hz 2 (v := .int .i64 0) rfl
   have z3 := cellAt hz 3 (v := .string ⟨#[]⟩) rfl
   have z4 := cellAt hz 4 (v := .bool false) rfl
   have z5 := frozenAt hz 0
   have z6 := frozenAt hz 1
   have z7 := frozenAt hz 2
   have z8 := frozenAt hz 3
   have z9 := frozenAt hz 4
   obtain ⟨k0, k1⟩ := KC.out _ S
   have S9 := Lib.hid (S.toAny (q := b + 1 + 1) 0 rfl)
   have FR : Hid (∀ W', Sep w (anyR (b + 1 + 1) :: boxV (b + 1) y :: boxV b x :: Rs) W' → Sep w Rs W') := Lib.hid fun W' T => T.tail.tail.tail
   clear S hz
   go_wp2
   refine bodyPost_ret (v := .tuple #[.bool false, excN typeError]) ?_ ?_ ?_
   ·
    simp [results, Tryz.results160, go_sem, z0, z1, z2, z3, z4]
   ·
    rfl
   refine ⟨by rw [HR.out]; rfl, FR.out _ ?_⟩
   iterate 5 refine Sep.poke (q := b + 1 + 1) ?_ 0 rfl _ _
   exact S9.out
 ·
  have g1 : (x.kind == 2) = false := by simp [hx2]
  by_cases hx3 : x.kind = 3
  ·
   have g3 : (x.kind == 3) = true := by simp [hx3]
   by_cases hy3 : y.kind = 3
   ·
    have g4 : (y.kind == 3) = true := by simp [hy3]
    have HR : Hid (rr = .ok (ordB lo eq (cmpL x.s.data.toList y.s.data.toList))) := Lib.hid (by rw [HO.out, if_neg (fun e => hx2 e.1), if_pos ⟨hx3, hy3⟩])
    clear HO hx2 hx3 hy3
    go_enter Tryz.func160, Tryz.ntmps160
    have M := Lib.hid (KS.out _ H1.out)
    go_wp2_with fail
    try simp only [World.size_alloc, hb]
    refine M.out.mono ?_
    rintro e w1 ⟨rfl, S⟩
    clear M d00 d01 d02 d10 d11 d12
    obtain ⟨c, hc⟩ : ∃ c, cmpL x.s.data.toList y.s.data.toList = c := ⟨_, rfl⟩
    have hc3 : c = 0 ∨ c = 1 ∨ c = -1 := by rw [← hc]; exact cmpL_three _ _
    rw [hc] at HR ⊢
    clear hc
    rcases hc3 with rfl | rfl | rfl
    ·
     cases eq with
     | false =>
      have hz := S.box (b := b + 1 + 1) 0 rfl
      have z0 := cellAt hz 0 (v := .string ⟨#[]⟩) rfl
      have z1 := cellAt hz 1 (v := .int .i64 0) rfl
      have z2 := cellAt hz 2 (v := .int .i64 0) rfl
      have z3 := cellAt hz 3 (v := .string ⟨#[]⟩) rfl
      have z4 := cellAt hz 4 (v := .bool false) rfl
      have z5 := frozenAt hz 0
      have z6 := frozenAt hz 1
      have z7 := frozenAt hz 2
      have z8 := frozenAt hz 3
      have z9 := frozenAt hz 4
      obtain ⟨k0, k1⟩ := KC.out _ S
      have S9 := Lib.hid (S.toAny (q := b + 1 + 1) 0 rfl)
      have FR : Hid (∀ W', Sep w (anyR (b + 1 + 1) :: boxV (b + 1) y :: boxV b x :: Rs) W' → Sep w Rs W') := Lib.hid fun W' T => T.tail.tail.tail
      clear S hz
      go_wp2
      refine bodyPost_ret (v := .tuple #[.bool false, excZ]) ?_ ?_ ?_
      ·
       simp [results, Tryz.results160, go_sem, z0, z1, z2, z3, z4]
      ·
       rfl
      refine ⟨by rw [HR.out]; rfl, FR.out _ ?_⟩
      iterate 5 refine Sep.poke (q := b + 1 + 1) ?_ 0 rfl _ _
      exact S9.out
     | true =>
      have hz := S.box (b := b + 1 + 1) 0 rfl
      have z0 := cellAt hz 0 (v := .string ⟨#[]⟩) rfl
      have z1 := cellAt hz 1 (v := .int .i64 0) rfl
      have z2 := cellAt hz 2 (v := .int .i64 0) rfl
      have z3 := cellAt hz 3 (v := .string ⟨#[]⟩) rfl
      have z4 := cellAt hz 4 (v := .bool false) rfl
      have z5 := frozenAt hz 0
      have z6 := frozenAt hz 1
      have z7 := frozenAt hz 2
      have z8 := frozenAt hz 3
      have z9 := frozenAt hz 4
      obtain ⟨k0, k1⟩ := KC.out _ S
      have S9 := Lib.hid (S.toAny (q := b + 1 + 1) 0 rfl)
      have FR : Hid (∀ W', Sep w (anyR (b + 1 + 1) :: boxV (b + 1) y :: boxV b x :: Rs) W' → Sep w Rs W') := Lib.hid fun W' T => T.tail.tail.tail
      clear S hz
      go_wp2
      refine bodyPost_ret (v := .tuple #[.bool true, excZ]) ?_ ?_ ?_
      ·
       simp [results, Tryz.results160, go_sem, z0, z1, z2, z3, z4]
      ·
       rfl
      refine ⟨by rw [HR.out]; rfl, FR.out _ ?_⟩
      iterate 5 refine Sep.poke (q := b + 1 + 1) ?_ 0 rfl _ _
      exact S9.out
    ·
     have hz := S.box (b := b + 1 + 1) 0 rfl
     have z0 := cellAt hz 0 (v := .string ⟨#[]⟩) rfl
     have z1 := cellAt hz 1 (v := .int .i64 0) rfl
     have z2 := cellAt hz 2 (v := .int .i64 0) rfl
     have z3 := cellAt hz 3 (v := .string ⟨#[]⟩) rfl
     have z4 := cellAt hz 4 (v := .bool false) rfl
     have z5 := frozenAt hz 0
     have z6 := frozenAt hz 1
     have z7 := frozenAt hz 2
     have z8 := frozenAt hz 3
     have z9 := frozenAt hz 4
     obtain ⟨k0, k1⟩ := KC.out _ S
     have S9 := Lib.hid (S.toAny (q := b + 1 + 1) 0 rfl)
     have FR : Hid (∀ W', Sep w (anyR (b + 1 + 1) :: boxV (b + 1) y :: boxV b x :: Rs) W' → Sep w Rs W') := Lib.hid fun W' T => T.tail.tail.tail
     clear S hz
     cases lo with
     | false =>
      go_wp2
      refine bodyPost_ret (v := .tuple #[.bool true, excZ]) ?_ ?_ ?_
      ·
       simp [results, Tryz.results160, go_sem, z0, z1, z2, z3, z4]
      ·
       rfl
      refine ⟨by rw [HR.out]; rfl, FR.out _ ?_⟩
      iterate 5 refine Sep.poke (q := b + 1 + 1) ?_ 0 rfl _ _
      exact S9.out
     | true =>
      go_wp2
      refine bodyPost_ret (v := .tuple #[.bool false, excZ]) ?_ ?_ ?_
      ·
       simp [results, Tryz.results160, go_sem, z0, z1, z2, z3, z4]
      ·
       rfl
      refine ⟨by rw [HR.out]; rfl, FR.out _ ?_⟩
      iterate 5 refine Sep.poke (q := b + 1 + 1) ?_ 0 rfl _ _
      exact S9.out
    ·
     have hz := S.box (b := b + 1 + 1) 0 rfl
     have z0 := cellAt hz 0 (v := .string ⟨#[]⟩) rfl
     have z1 := cellAt hz 1 (v := .int .i64 0) rfl
     have z2 := cellAt hz 2 (v := .int .i64 0) rfl
     have z3 := cellAt hz 3 (v := .string ⟨#[]⟩) rfl
     have z4 := cellAt hz 4 (v := .bool false) rfl
     have z5 := frozenAt hz 0
     have z6 := frozenAt hz 1
     have z7 := frozenAt hz 2
     have z8 := frozenAt hz 3
     have z9 := frozenAt hz 4
     obtain ⟨k0, k1⟩ := KC.out _ S
     have S9 := Lib.hid (S.toAny (q := b + 1 + 1) 0 rfl)
     have FR : Hid (∀ W', Sep w (anyR (b + 1 + 1) :: boxV (b + 1) y :: boxV b x :: Rs) W' → Sep w Rs W') := Lib.hid fun W' T => T.tail.tail.tail
     clear S hz
     cases lo with
     | false =>
      go_wp2
      refine bodyPost_ret (v := .tuple #[.bool false, excZ]) ?_ ?_ ?_
      ·
       simp [results, Tryz.results160, go_sem, z0, z1, z2, z3, z4]
      ·
       rfl
      refine ⟨by rw [HR.out]; rfl, FR.out _ ?_⟩
      iterate 5 refine Sep.poke (q := b + 1 + 1) ?_ 0 rfl _ _
      exact S9.out
     | true =>
      go_wp2
      refine bodyPost_ret (v := .tuple #[.bool true, excZ]) ?_ ?_ ?_
      ·
       simp [results, Tryz.results160, go_sem, z0, z1, z2, z3, z4]
      ·
       rfl
      refine ⟨by rw [HR.out]; rfl, FR.out _ ?_⟩
      iterate 5 refine Sep.poke (q := b + 1 + 1) ?_ 0 rfl _ _
      exact S9.out
   ·
    have g4 : (y.kind == 3) = false := by simp [hy3]
    have HR : Hid (rr = .type) := Lib.hid (by rw [HO.out, if_neg (fun e => hx2 e.1), if_neg (fun e => hy3 e.2)])
    clear HO hx2 hx3 hy3
    go_enter Tryz.func160, Tryz.ntmps160
    have M := Lib.hid (KR.out _ H1.out)
    go_wp2_with fail
    try simp only [World.size_alloc, hb]
    refine M.out.mono ?_
    rintro e w1 ⟨rfl, S⟩
    clear M d00 d01 d02 d10 d11 d12
    have hz := S.box (b := b + 1 + 1) 0 rfl
    have z0 := cellAt hz 0 (v := .string ⟨#[]⟩) rfl
    have z1 := cellAt hz 1 (v := .int .i64 0) rfl
    have z2 := cellAt hz 2 (v := .int .i64 0) rfl
    have z3 := cellAt hz 3 (v := .string ⟨#[]⟩) rfl
    have z4 := cellAt hz 4 (v := .bool false) rfl
    have z5 := frozenAt hz 0
    have z6 := frozenAt hz 1
    have z7 := frozenAt hz 2
    have z8 := frozenAt hz 3
    have z9 := frozenAt hz 4
    obtain ⟨k0, k1⟩ := KC.out _ S
    have S9 := Lib.hid (S.toAny (q := b + 1 + 1) 0 rfl)
    have FR : Hid (∀ W', Sep w (anyR (b + 1 + 1) :: boxV (b + 1) y :: boxV b x :: Rs) W' → Sep w Rs W') := Lib.hid fun W' T => T.tail.tail.tail
    clear S hz
    go_wp2
    refine bodyPost_ret (v := .tuple #[.bool false, excN typeError]) ?_ ?_ ?_
    ·
     simp [results, Tryz.results160, go_sem, z0, z1, z2, z3, z4]
    ·
     rfl
    refine ⟨by rw [HR.out]; rfl, FR.out _ ?_⟩
    iterate 5 refine Sep.poke (q := b + 1 + 1) ?_ 0 rfl _ _
    exact S9.out
  ·
   have g3 : (x.kind == 3) = false := by simp [hx3]
   have HR : Hid (rr = .type) := Lib.hid (by rw [HO.out, if_neg (fun e => hx2 e.1), if_neg (fun e => hx3 e.1)])
   clear HO hx2 hx3
   go_enter Tryz.func160, Tryz.ntmps160
   have M := Lib.hid (KR.out _ H1.out)
   go_wp2_with fail
   try simp only [World.size_alloc, hb]
   refine M.out.mono ?_
   rintro e w1 ⟨rfl, S⟩
   clear M d00 d01 d02 d10 d11 d12
   have hz := S.box (b := b + 1 + 1) 0 rfl
   have z0 := cellAt hz 0 (v := .string ⟨#[]⟩) rfl
   have z1 := cellAt hz 1 (v := .int .i64 0) rfl
   have z2 := cellAt hz 2 (v := .int .i64 0) rfl
   have z3 := cellAt hz 3 (v := .string ⟨#[]⟩) rfl
   have z4 := cellAt hz 4 (v := .bool false) rfl
   have z5 := frozenAt hz 0
   have z6 := frozenAt hz 1
   have z7 := frozenAt hz 2
   have z8 := frozenAt hz 3
   have z9 := frozenAt hz 4
   obtain ⟨k0, k1⟩ := KC.out _ S
   have S9 := Lib.hid (S.toAny (q := b + 1 + 1) 0 rfl)
   have FR : Hid (∀ W', Sep w (anyR (b + 1 + 1) :: boxV (b + 1) y :: boxV b x :: Rs) W' → Sep w Rs W') := Lib.hid fun W' T => T.tail.tail.tail
   clear S hz
   go_wp2
   refine bodyPost_ret (v := .tuple #[.bool false, excN typeError]) ?_ ?_ ?_
   ·
    simp [results, Tryz.results160, go_sem, z0, z1, z2, z3, z4]
   ·
    rfl
   refine ⟨by rw [HR.out]; rfl, FR.out _ ?_⟩
   iterate 5 refine Sep.poke (q := b + 1 + 1) ?_ 0 rfl _ _
   exact S9.out
end
end Go.Proofs.YtijlebhoapdfnaaGreat
/- ch 16: Cmp, op by op; order plainly. -/
namespace Go.Proofs.YtijlebhoapdfnaaGreat
set_option linter.unusedSimpArgs false
open Go.RowKit
set_option linter.unusedVariables false
section
variable {w W : World} {Rs : List Res} {h : Nat} {H : HeapM}
theorem cmp_lt (S : Sep w Rs W) (i : Nat) (hi : Rs[i]? = some (heapR h H)) (x y : V) (r : Value) (hr : r = cmpV (ordRes true false x y) false) :
  Calls Tryz.prog 25 #[.pointer (some ⟨h, 0, none⟩), .string ⟨#[60]⟩, .agg #[.int .i64 x.kind, .int .i64 x.n, .string x.s], .agg #[.int .i64 y.kind, .int .i64 y.n, .string y.s]] W fun e W' => e = .returned r ∧ Sep w Rs W' := by
 subst hr
 exact cmp_ord S i hi ⟨#[60]⟩ (by decide) false x y _ 1 true false (by decide) (fun m => rfl) (fun qb i S hi h1 h2 => orderOp_ok true false qb i S hi h1 h2 x y)
theorem cmp_le (S : Sep w Rs W) (i : Nat) (hi : Rs[i]? = some (heapR h H)) (x y : V) (r : Value) (hr : r = cmpV (ordRes true true x y) false) :
  Calls Tryz.prog 25 #[.pointer (some ⟨h, 0, none⟩), .string ⟨#[60, 61]⟩, .agg #[.int .i64 x.kind, .int .i64 x.n, .string x.s], .agg #[.int .i64 y.kind, .int .i64 y.n, .string y.s]] W fun e W' => e = .returned r ∧ Sep w Rs W' := by
 subst hr
 exact cmp_ord S i hi ⟨#[60, 61]⟩ (by decide) false x y _ 3 true true (by decide) (fun m => rfl) (fun qb i S hi h1 h2 => orderOp_ok true true qb i S hi h1 h2 x y)
theorem cmp_gt (S : Sep w Rs W) (i : Nat) (hi : Rs[i]? = some (heapR h H)) (x y : V) (r : Value) (hr : r = cmpV (ordRes false false x y) false) :
  Calls Tryz.prog 25 #[.pointer (some ⟨h, 0, none⟩), .string ⟨#[62]⟩, .agg #[.int .i64 x.kind, .int .i64 x.n, .string x.s], .agg #[.int .i64 y.kind, .int .i64 y.n, .string y.s]] W fun e W' => e = .returned r ∧ Sep w Rs W' := by
 subst hr
 exact cmp_ord S i hi ⟨#[62]⟩ (by decide) false x y _ 5 false false (by decide) (fun m => rfl) (fun qb i S hi h1 h2 => orderOp_ok false false qb i S hi h1 h2 x y)
theorem cmp_ge (S : Sep w Rs W) (i : Nat) (hi : Rs[i]? = some (heapR h H)) (x y : V) (r : Value) (hr : r = cmpV (ordRes false true x y) false) :
  Calls Tryz.prog 25 #[.pointer (some ⟨h, 0, none⟩), .string ⟨#[62, 61]⟩, .agg #[.int .i64 x.kind, .int .i64 x.n, .string x.s], .agg #[.int .i64 y.kind, .int .i64 y.n, .string y.s]] W fun e W' => e = .returned r ∧ Sep w Rs W' := by
 subst hr
 exact cmp_ord S i hi ⟨#[62, 61]⟩ (by decide) false x y _ 7 false true (by decide) (fun m => rfl) (fun qb i S hi h1 h2 => orderOp_ok false true qb i S hi h1 h2 x y)
/-- Same's answer, as a comparison's. -/
def sameC : Option Bool → CmpRes | some b => .ok b | none => .deep
theorem sameC_val (r : Option Bool) : (sameC r).val = sameV r := by cases r <;> rfl
theorem cmp_eq {N : Nat} (G : H.Good N) (hN : N ≤ 4000000) (S : Sep w Rs W) (i : Nat) (hi : Rs[i]? = some (heapR h H)) (x y : V) (r : Value) (hr : r = cmpV (sameC (H.sameF 30 x y)) false) :
  Calls Tryz.prog 25 #[.pointer (some ⟨h, 0, none⟩), .string ⟨#[61, 61]⟩, .agg #[.int .i64 x.kind, .int .i64 x.n, .string x.s], .agg #[.int .i64 y.kind, .int .i64 y.n, .string y.s]] W fun e W' => e = .returned r ∧ Sep w Rs W' := by
 subst hr
 exact cmp_same S i hi ⟨#[61, 61]⟩ (by decide) false x y _ (fun m => rfl) (fun i S hi => by rw [sameC_val]; exact sameOp_ok G hN i S hi x y)
theorem cmp_ne {N : Nat} (G : H.Good N) (hN : N ≤ 4000000) (S : Sep w Rs W) (i : Nat) (hi : Rs[i]? = some (heapR h H)) (x y : V) (r : Value) (hr : r = cmpV (sameC (H.sameF 30 x y)) true) :
  Calls Tryz.prog 25 #[.pointer (some ⟨h, 0, none⟩), .string ⟨#[33, 61]⟩, .agg #[.int .i64 x.kind, .int .i64 x.n, .string x.s], .agg #[.int .i64 y.kind, .int .i64 y.n, .string y.s]] W fun e W' => e = .returned r ∧ Sep w Rs W' := by
 subst hr
 exact cmp_same S i hi ⟨#[33, 61]⟩ (by decide) true x y _ (fun m => rfl) (fun i S hi => by rw [sameC_val]; exact sameOp_ok G hN i S hi x y)
end
end Go.Proofs.YtijlebhoapdfnaaGreat
