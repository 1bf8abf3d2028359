/- ch 16: same. -/
import Derived.Test.YtellmfimmghidaaGreatOprB
import Derived.Test.YtellmfimmghidaaGreatRegI
namespace Go.Proofs.YtellmfimmghidaaGreat
set_option linter.unusedSimpArgs false
open Go.RowKit
set_option linter.unusedVariables false
theorem allM_stop {α : Type} {p : α → Option Bool} : ∀ {l : List α} {k : Nat} {x : α}, l[k]? = some x → (∀ y ∈ l.take k, p y = some true) → p x ≠ some true → allM p l = p x
  | [], k, x, h, _, _ => by simp at h
  | a :: l, 0, x, h, _, hp => by
    simp at h; subst h
    unfold allM
    split
    · rename_i e; exact absurd e hp
    · rfl
  | a :: l, k + 1, x, h, ha, hp => by
    have h1 : p a = some true := ha a (by simp)
    unfold allM
    rw [h1]
    exact allM_stop (l := l) (k := k) (by simpa using h) (fun y hy => ha y (by simp [hy])) hp
theorem allM_all {α : Type} {p : α → Option Bool} : ∀ {l : List α}, (∀ y ∈ l, p y = some true) → allM p l = some true
  | [], _ => rfl
  | a :: l, ha => by
    unfold allM
    rw [ha a (by simp)]
    exact allM_all fun y hy => ha y (by simp [hy])
theorem take_snoc {α : Type} {l : List α} {k : Nat} {x : α} (h : l[k]? = some x) {p : α → Prop} (ha : ∀ y ∈ l.take k, p y) (hx : p x) : ∀ y ∈ l.take (k + 1), p y := by
  intro y hy
  rw [List.take_add_one, h] at hy
  rcases List.mem_append.1 hy with hh | hh
  · exact ha y hh
  · simp at hh; subst hh; exact hx
section
variable {w W : World} {Rs : List Res} {h : Nat} {H : HeapM}
theorem get_at (S : Sep w Rs W) (i : Nat) (hi : Rs[i]? = some (heapR h H)) (v k y : V) (r : Bool) (hy : (H.get v k).getD V.zero = y) (hr : (H.get v k).isSome = r) : Calls Tryz.prog 43 #[.pointer (some ⟨h, 0, none⟩), .agg #[.int .i64 v.kind, .int .i64 v.n, .string v.s], .agg #[.int .i64 k.kind, .int .i64 k.n, .string k.s]] W fun e W' => e = .returned (.tuple #[.agg #[.int .i64 y.kind, .int .i64 y.n, .string y.s], .bool r]) ∧ Sep w Rs W' := by
  subst hy hr
  exact (S.get_ i hi v k).mono fun e W' hh => ⟨hh.1, hh.2.1⟩
theorem items_at (S : Sep w Rs W) (i : Nat) (hi : Rs[i]? = some (heapR h H)) {N : Nat} (G : H.Good N) (hN : N ≤ 4000000) (v : V) (l : List V) (hl : H.items v = l) : Calls Tryz.prog 31 #[.pointer (some ⟨h, 0, none⟩), .agg #[.int .i64 v.kind, .int .i64 v.n, .string v.s]] W fun e W' => ∃ a c, e = .returned (.slice a l.length c) ∧ Sep w (valsR (.slice a l.length c) l :: Rs) W' := by
  subst hl
  refine (S.items i hi G hN v).mono fun e W' ⟨sv, h1, h2, _⟩ => ?_
  obtain ⟨a, c, rfl⟩ := (h2.row 0 rfl).form
  exact ⟨a, c, h1, h2⟩
theorem keys_at (S : Sep w Rs W) (i : Nat) (hi : Rs[i]? = some (heapR h H)) (v : V) (l : List V) (hl : (H.pairs v).map (·.1) = l) : Calls Tryz.prog 104 #[.pointer (some ⟨h, 0, none⟩), .agg #[.int .i64 v.kind, .int .i64 v.n, .string v.s]] W fun e W' => ∃ a c, e = .returned (.slice a l.length c) ∧ Sep w (valsR (.slice a l.length c) l :: Rs) W' := by
  subst hl
  refine (S.keys i hi v).mono fun e W' ⟨sv, h1, h2, _⟩ => ?_
  obtain ⟨a, c, rfl⟩ := (h2.row 0 rfl).form
  exact ⟨a, c, h1, h2⟩
theorem raise_ok (W : World) (s : ByteArray) : Calls Tryz.prog 57 #[.string s] W fun e W' => e = .returned (excN s) ∧ Below W.heap.size W W' := by
  go_enter Tryz.func57, Tryz.ntmps57
  go_wp2
  exact bodyPost_ret (v := excN s) (by simp [results, Tryz.results57, go_sem]) rfl ⟨rfl, by (repeat (first | exact Below.refl _ _ | assumption | refine Below.drewN ?_ _ | refine Below.drew ?_ | refine Below.alloc ?_ (by (try simp only [World.size_alloc, size_drewN, size_setCell]); omega) _ | refine Below.setCell ?_ (by (try simp only [World.size_alloc, size_drewN, size_setCell]); omega) _))⟩
/-- A value among others, in a row that lies there. -/
theorem SeesV.three {a : Option Addr} {n c : Nat} {l : List V} (hs : SeesV W (.slice a n c) l) {k : Nat} {x : V} (hx : l[k]? = some x) : ∃ g o, a = some ⟨g, o, none⟩ ∧ ∀ i v, l[i]? = some v → W.cell? ⟨g, o + i * 3, none⟩ = some (.int .i64 v.kind) ∧ W.cell? ⟨g, o + i * 3 + 1, none⟩ = some (.int .i64 v.n) ∧ W.cell? ⟨g, o + i * 3 + 2, none⟩ = some (.string v.s) := by
  obtain ⟨_, _, e0, p1, p2, p3⟩ := hs
  cases e0
  rcases p3 with hh | hh
  · subst hh; simp at hx
  · exact hh
theorem sepThree {g o c : Nat} {l : List V} (S : Sep w Rs W) (j : Nat) (hj : Rs[j]? = some (valsR (.slice (some ⟨g, o, none⟩) l.length c) l)) {k : Nat} {x : V} (hx : l[k]? = some x) : W.cell? ⟨g, o + k * 3, none⟩ = some (.int .i64 x.kind) ∧ W.cell? ⟨g, o + k * 3 + 1, none⟩ = some (.int .i64 x.n) ∧ W.cell? ⟨g, o + k * 3 + 2, none⟩ = some (.string x.s) := by
  obtain ⟨g1, o1, e, hh⟩ := (S.row j hj).sees'.three hx
  cases e
  exact hh k x hx
set_option maxRecDepth 100000 in
set_option maxHeartbeats 12800000 in
theorem same_ok {N : Nat} (G : H.Good N) (hN : N ≤ 4000000) : ∀ (f : Nat) {Rs : List Res} {W : World} (S : Sep w Rs W) (i : Nat) (hi : Rs[i]? = some (heapR h H)) (x y : V) (d : Int) (hd : d + f = 30) (hd0 : 0 ≤ d),
    Calls Tryz.prog 64 #[.pointer (some ⟨h, 0, none⟩), .agg #[.int .i64 x.kind, .int .i64 x.n, .string x.s], .agg #[.int .i64 y.kind, .int .i64 y.n, .string y.s], .int .i64 d] W fun e W' => e = .returned (sameV (H.sameF f x y)) ∧ Sep w Rs W' := by
  intro f
  induction f with
  | zero =>
    intro Rs W S i hi x y d hd hd0
    have hd1 : d = 30 := by omega
    subst hd1
    have SF : H.sameF 0 x y = H.sameT x y none := rfl
    obtain ⟨b, hb⟩ : ∃ gx_, (W.heap.size) = gx_ := ⟨_, rfl⟩
    have S1 := ((S.alloc (.cells #[.int .i64 x.kind, .int .i64 x.n, .string x.s] 29)).alloc (.cells #[.int .i64 y.kind, .int .i64 y.n, .string y.s] 29)).alloc (.cells #[.string ⟨#[]⟩, .int .i64 0, .int .i64 0, .string ⟨#[]⟩, .bool false] 38)
    simp only [World.size_alloc, hb] at S1
    obtain ⟨r1, hr1⟩ : ∃ r, H.oneB x y = r := ⟨_, rfl⟩
    obtain ⟨r2, hr2⟩ : ∃ r, H.wholeB x = r := ⟨_, rfl⟩
    obtain ⟨kx, hkx⟩ : ∃ k, H.kind x = k := ⟨_, rfl⟩
    obtain ⟨ky, hky⟩ : ∃ k, H.kind y = k := ⟨_, rfl⟩
    obtain ⟨nx, hnx⟩ : ∃ k, H.sizeB x = k := ⟨_, rfl⟩
    obtain ⟨ny, hny⟩ : ∃ k, H.sizeB y = k := ⟨_, rfl⟩
    have HV := Lib.hid (And.intro hi (And.intro hr1 (And.intro hr2 (And.intro hkx (And.intro hky (And.intro hnx hny))))))
    have HF := Lib.hid SF
    replace S1 : Sep w (boxE (b + 1 + 1) :: boxV (b + 1) y :: boxV b x :: Rs) _ := S1
    have S := S1
    clear S1
    clear hi hr1 hr2 hkx hky hnx hny SF
    obtain ⟨d0, d1, d2, -⟩ := cells3 (S.box (b := b) (o := objV x) 2 rfl)
    obtain ⟨d3, d4, d5, -⟩ := cells3 (S.box (b := b + 1) (o := objV y) 1 rfl)
    have M := Lib.hid (one_ok S (i + 3) (by simpa using HV.out.1) x y r1 HV.out.2.1)
    clear S
    go_enter Tryz.func64, Tryz.ntmps64
    go_wp2_with fail
    try simp only [World.size_alloc, hb]
    refine M.out.mono ?_
    rintro e w1 ⟨rfl, S⟩
    clear M hb d0 d1 d2 d3 d4 d5
    cases r1 with
    | true =>
      have HM : Hid (H.sameF 0 x y = some true) := Lib.hid (by rw [HF.out]; unfold HeapM.sameT; rw [if_pos HV.out.2.1])
      have hz := S.box (b := b + 1 + 1) 0 rfl
      have z0 := cellAt hz 0 (v := .string ⟨#[]⟩) rfl
      have z1 := cellAt hz 1 (v := .int .i64 0) rfl
      have z2 := cellAt hz 2 (v := .int .i64 0) rfl
      have z3 := cellAt hz 3 (v := .string ⟨#[]⟩) rfl
      have z4 := cellAt hz 4 (v := .bool false) rfl
      have z5 := frozenAt hz 0
      have z6 := frozenAt hz 1
      have z7 := frozenAt hz 2
      have z8 := frozenAt hz 3
      have z9 := frozenAt hz 4
      have S9 := Lib.hid (S.toAny (q := b + 1 + 1) 0 rfl)
      have FR : Hid (∀ W', Sep w (anyR (b + 1 + 1) :: boxV (b + 1) y :: boxV b x :: Rs) W' → Sep w Rs W') := Lib.hid fun W' T => T.tail.tail.tail
      clear S hz
      go_wp2
      refine bodyPost_ret (v := .tuple #[.bool true, excZ]) (by simp [results, Tryz.results64, go_sem, z0, z1, z2, z3, z4]) rfl ⟨by rw [HM.out]; rfl, FR.out _ ?_⟩
      iterate 5 refine Sep.poke (q := b + 1 + 1) ?_ 0 rfl _ _
      exact S9.out
    | false =>
      have KW := Lib.hid (fun W (S : Sep w (boxE (b + 1 + 1) :: boxV (b + 1) y :: boxV b x :: Rs) W) => whole_ok S (i + 3) (by simpa using HV.out.1) x r2 HV.out.2.2.1)
      have KX := Lib.hid (fun W (S : Sep w (boxE (b + 1 + 1) :: boxV (b + 1) y :: boxV b x :: Rs) W) => kind_at S (i + 3) (by simpa using HV.out.1) x kx HV.out.2.2.2.1)
      have KY := Lib.hid (fun W (S : Sep w (boxE (b + 1 + 1) :: boxV (b + 1) y :: boxV b x :: Rs) W) => kind_at S (i + 3) (by simpa using HV.out.1) y ky HV.out.2.2.2.2.1)
      have KA := Lib.hid (fun W (S : Sep w (boxE (b + 1 + 1) :: boxV (b + 1) y :: boxV b x :: Rs) W) => sizeB_ok S (i + 3) (by simpa using HV.out.1) x nx HV.out.2.2.2.2.2.1)
      have KB := Lib.hid (fun W (S : Sep w (boxE (b + 1 + 1) :: boxV (b + 1) y :: boxV b x :: Rs) W) => sizeB_ok S (i + 3) (by simpa using HV.out.1) y ny HV.out.2.2.2.2.2.2)
      have ST : Hid (r2 = false ∨ kx ≠ ky → H.sameF 0 x y = some ((decide (kx = 0) || decide (ky = 0)) && decide (x = y))) := Lib.hid fun hh => by rw [HF.out]; unfold HeapM.sameT; rw [if_neg (by rw [HV.out.2.1]; simp), HV.out.2.2.2.1, HV.out.2.2.2.2.1, if_pos (by rw [HV.out.2.2.1]; exact hh)]
      have SZ : Hid (r2 = true → kx = ky → H.sameF 0 x y = if nx ≠ ny then some false else none) := Lib.hid fun h1 h2 => by rw [HF.out]; unfold HeapM.sameT; rw [if_neg (by rw [HV.out.2.1]; simp), if_neg (by rw [HV.out.2.2.1, HV.out.2.2.2.1, HV.out.2.2.2.2.1]; simp [h1, h2]), HV.out.2.2.2.2.2.1, HV.out.2.2.2.2.2.2]
      have EQ := Lib.hid (fun W => eql_vals W x y (decide (x = y)) rfl)
      go_upto_region 3 with fail
      cases r2 with
      | false =>
        refine wp_region_sep (by kernel_rfl) (by kernel_rfl) (S) ?_
        repeat (first | go_big_quiet_skip | (go_big_quiet_want; apply Exists.intro; refine ⟨fun Wq hWq => ?_, ?_⟩; (focus (have d0 := wpVal x (hWq.box (b := b) 2 rfl); have d1 := wpVal y (hWq.box (b := b + 1) 1 rfl); obtain ⟨d00, d01, d02⟩ := d0; obtain ⟨d10, d11, d12⟩ := d1; go_simp; first | done | rfl | exact ⟨rfl, rfl⟩ | (with_reducible (exact KW.out _ hWq)))); go_big_quiet_on; simp only [Act.put, List.setIfInBounds_toArray, List.set_cons_zero, List.set_cons_succ]))
        refine wpQuiet_nil ?_
        intro wq hq
        have HM0 := Lib.hid (ST.out (.inl rfl))
        clear S
        have S := hq
        clear hq
        obtain ⟨d0, d1, d2, -⟩ := cells3 (S.box (b := b) (o := objV x) 2 rfl)
        obtain ⟨d3, d4, d5, -⟩ := cells3 (S.box (b := b + 1) (o := objV y) 1 rfl)
        have M := Lib.hid (KX.out _ S)
        clear S
        go_wp2_with fail
        refine M.out.mono ?_
        rintro e w7 ⟨rfl, S⟩
        clear M d0 d1 d2 d3 d4 d5
        by_cases hk0 : kx = 0
        · subst hk0
          have HM : Hid (H.sameF 0 x y = some (decide (x = y))) := Lib.hid (by rw [HM0.out]; simp)
          obtain ⟨d0, d1, d2, -⟩ := cells3 (S.box (b := b) (o := objV x) 2 rfl)
          obtain ⟨d3, d4, d5, -⟩ := cells3 (S.box (b := b + 1) (o := objV y) 1 rfl)
          have EQ1 := EQ.out
          have hz := S.box (b := b + 1 + 1) 0 rfl
          have z0 := cellAt hz 0 (v := .string ⟨#[]⟩) rfl
          have z1 := cellAt hz 1 (v := .int .i64 0) rfl
          have z2 := cellAt hz 2 (v := .int .i64 0) rfl
          have z3 := cellAt hz 3 (v := .string ⟨#[]⟩) rfl
          have z4 := cellAt hz 4 (v := .bool false) rfl
          have z5 := frozenAt hz 0
          have z6 := frozenAt hz 1
          have z7 := frozenAt hz 2
          have z8 := frozenAt hz 3
          have z9 := frozenAt hz 4
          have S9 := Lib.hid (S.toAny (q := b + 1 + 1) 0 rfl)
          have FR : Hid (∀ W', Sep w (anyR (b + 1 + 1) :: boxV (b + 1) y :: boxV b x :: Rs) W' → Sep w Rs W') := Lib.hid fun W' T => T.tail.tail.tail
          clear S hz
          go_wp2
          refine bodyPost_ret (v := .tuple #[.bool (decide (x = y)), excZ]) (by simp [results, Tryz.results64, go_sem, z0, z1, z2, z3, z4]) rfl ⟨by rw [HM.out]; rfl, FR.out _ ?_⟩
          iterate 5 refine Sep.poke (q := b + 1 + 1) ?_ 0 rfl _ _
          exact S9.out
        · have hk1 : (kx == 0) = false := by simp [hk0]
          obtain ⟨d0, d1, d2, -⟩ := cells3 (S.box (b := b) (o := objV x) 2 rfl)
          obtain ⟨d3, d4, d5, -⟩ := cells3 (S.box (b := b + 1) (o := objV y) 1 rfl)
          have M := Lib.hid (KY.out _ S)
          clear S
          go_wp2_with fail
          refine M.out.mono ?_
          rintro e w8 ⟨rfl, S⟩
          clear M d0 d1 d2 d3 d4 d5
          by_cases hm0 : ky = 0
          · subst hm0
            have HM : Hid (H.sameF 0 x y = some (decide (x = y))) := Lib.hid (by rw [HM0.out]; simp)
            obtain ⟨d0, d1, d2, -⟩ := cells3 (S.box (b := b) (o := objV x) 2 rfl)
            obtain ⟨d3, d4, d5, -⟩ := cells3 (S.box (b := b + 1) (o := objV y) 1 rfl)
            have EQ1 := EQ.out
            have hz := S.box (b := b + 1 + 1) 0 rfl
            have z0 := cellAt hz 0 (v := .string ⟨#[]⟩) rfl
            have z1 := cellAt hz 1 (v := .int .i64 0) rfl
            have z2 := cellAt hz 2 (v := .int .i64 0) rfl
            have z3 := cellAt hz 3 (v := .string ⟨#[]⟩) rfl
            have z4 := cellAt hz 4 (v := .bool false) rfl
            have z5 := frozenAt hz 0
            have z6 := frozenAt hz 1
            have z7 := frozenAt hz 2
            have z8 := frozenAt hz 3
            have z9 := frozenAt hz 4
            have S9 := Lib.hid (S.toAny (q := b + 1 + 1) 0 rfl)
            have FR : Hid (∀ W', Sep w (anyR (b + 1 + 1) :: boxV (b + 1) y :: boxV b x :: Rs) W' → Sep w Rs W') := Lib.hid fun W' T => T.tail.tail.tail
            clear S hz
            go_wp2
            refine bodyPost_ret (v := .tuple #[.bool (decide (x = y)), excZ]) (by simp [results, Tryz.results64, go_sem, z0, z1, z2, z3, z4]) rfl ⟨by rw [HM.out]; rfl, FR.out _ ?_⟩
            iterate 5 refine Sep.poke (q := b + 1 + 1) ?_ 0 rfl _ _
            exact S9.out
          · have hm1 : (ky == 0) = false := by simp [hm0]
            have HM : Hid (H.sameF 0 x y = some false) := Lib.hid (by rw [HM0.out]; simp [hk0, hm0])
            obtain ⟨d0, d1, d2, -⟩ := cells3 (S.box (b := b) (o := objV x) 2 rfl)
            obtain ⟨d3, d4, d5, -⟩ := cells3 (S.box (b := b + 1) (o := objV y) 1 rfl)
            have EQ1 := EQ.out
            have hz := S.box (b := b + 1 + 1) 0 rfl
            have z0 := cellAt hz 0 (v := .string ⟨#[]⟩) rfl
            have z1 := cellAt hz 1 (v := .int .i64 0) rfl
            have z2 := cellAt hz 2 (v := .int .i64 0) rfl
            have z3 := cellAt hz 3 (v := .string ⟨#[]⟩) rfl
            have z4 := cellAt hz 4 (v := .bool false) rfl
            have z5 := frozenAt hz 0
            have z6 := frozenAt hz 1
            have z7 := frozenAt hz 2
            have z8 := frozenAt hz 3
            have z9 := frozenAt hz 4
            have S9 := Lib.hid (S.toAny (q := b + 1 + 1) 0 rfl)
            have FR : Hid (∀ W', Sep w (anyR (b + 1 + 1) :: boxV (b + 1) y :: boxV b x :: Rs) W' → Sep w Rs W') := Lib.hid fun W' T => T.tail.tail.tail
            clear S hz
            go_wp2
            refine bodyPost_ret (v := .tuple #[.bool (false), excZ]) (by simp [results, Tryz.results64, go_sem, z0, z1, z2, z3, z4]) rfl ⟨by rw [HM.out]; rfl, FR.out _ ?_⟩
            iterate 5 refine Sep.poke (q := b + 1 + 1) ?_ 0 rfl _ _
            exact S9.out
      | true =>
        by_cases hkk : kx = ky
        · subst hkk
          have hb2 : (kx != kx) = false := by simp
          refine wp_region_sep (by kernel_rfl) (by kernel_rfl) (S) ?_
          repeat (first | go_big_quiet_skip | (go_big_quiet_want; apply Exists.intro; refine ⟨fun Wq hWq => ?_, ?_⟩; (focus (have d0 := wpVal x (hWq.box (b := b) 2 rfl); have d1 := wpVal y (hWq.box (b := b + 1) 1 rfl); obtain ⟨d00, d01, d02⟩ := d0; obtain ⟨d10, d11, d12⟩ := d1; go_simp; first | done | rfl | exact ⟨rfl, rfl⟩ | (with_reducible (first | exact KW.out _ hWq | exact KX.out _ hWq | exact KY.out _ hWq)))); go_big_quiet_on; simp only [Act.put, List.setIfInBounds_toArray, List.set_cons_zero, List.set_cons_succ]))
          refine wpQuiet_nil ?_
          intro wq hq
          clear S
          have S := hq
          clear hq hb2
          go_upto_region 5 with fail
          refine wp_region_sep (by kernel_rfl) (by kernel_rfl) (S) ?_
          repeat (first | go_big_quiet_skip | (go_big_quiet_want; apply Exists.intro; refine ⟨fun Wq hWq => ?_, ?_⟩; (focus (have d0 := wpVal x (hWq.box (b := b) 2 rfl); have d1 := wpVal y (hWq.box (b := b + 1) 1 rfl); obtain ⟨d00, d01, d02⟩ := d0; obtain ⟨d10, d11, d12⟩ := d1; go_simp; first | done | rfl | exact ⟨rfl, rfl⟩ | (with_reducible (first | exact KA.out _ hWq | exact KB.out _ hWq)))); go_big_quiet_on; simp only [Act.put, List.setIfInBounds_toArray, List.set_cons_zero, List.set_cons_succ]))
          refine wpQuiet_nil ?_
          intro wq hq
          clear S
          have S := hq
          clear hq
          have HM0 := Lib.hid (SZ.out rfl rfl)
          clear ST SZ KW KA KB EQ
          by_cases hnn : nx = ny
          · subst hnn
            have HM : Hid (H.sameF 0 x y = none) := Lib.hid (by rw [HM0.out]; simp)
            have M := Lib.hid (((raise_ok wq recursionError).mono fun e W1 (hh : _ ∧ _) => (⟨hh.1, S.later hh.2⟩ : _ ∧ Sep w (boxE (b + 1 + 1) :: boxV (b + 1) y :: boxV b x :: Rs) W1)))
            clear S
            go_wp2_with fail
            refine M.out.mono ?_
            rintro e w2 ⟨rfl, S⟩
            clear M
            have hz := S.box (b := b + 1 + 1) 0 rfl
            have z0 := cellAt hz 0 (v := .string ⟨#[]⟩) rfl
            have z1 := cellAt hz 1 (v := .int .i64 0) rfl
            have z2 := cellAt hz 2 (v := .int .i64 0) rfl
            have z3 := cellAt hz 3 (v := .string ⟨#[]⟩) rfl
            have z4 := cellAt hz 4 (v := .bool false) rfl
            have z5 := frozenAt hz 0
            have z6 := frozenAt hz 1
            have z7 := frozenAt hz 2
            have z8 := frozenAt hz 3
            have z9 := frozenAt hz 4
            have S9 := Lib.hid (S.toAny (q := b + 1 + 1) 0 rfl)
            have FR : Hid (∀ W', Sep w (anyR (b + 1 + 1) :: boxV (b + 1) y :: boxV b x :: Rs) W' → Sep w Rs W') := Lib.hid fun W' T => T.tail.tail.tail
            clear S hz
            go_wp2
            refine bodyPost_ret (v := .tuple #[.bool false, excN recursionError]) (by simp [results, Tryz.results64, go_sem, z0, z1, z2, z3, z4]) rfl ⟨by rw [HM.out]; rfl, FR.out _ ?_⟩
            iterate 5 refine Sep.poke (q := b + 1 + 1) ?_ 0 rfl _ _
            exact S9.out
          · have hnn1 : (nx != ny) = true := by simp [hnn]
            have hnn2 : (nx : Int) ≠ (ny : Int) := by omega
            have HM : Hid (H.sameF 0 x y = some false) := Lib.hid (by rw [HM0.out, if_pos hnn])
            have hz := S.box (b := b + 1 + 1) 0 rfl
            have z0 := cellAt hz 0 (v := .string ⟨#[]⟩) rfl
            have z1 := cellAt hz 1 (v := .int .i64 0) rfl
            have z2 := cellAt hz 2 (v := .int .i64 0) rfl
            have z3 := cellAt hz 3 (v := .string ⟨#[]⟩) rfl
            have z4 := cellAt hz 4 (v := .bool false) rfl
            have z5 := frozenAt hz 0
            have z6 := frozenAt hz 1
            have z7 := frozenAt hz 2
            have z8 := frozenAt hz 3
            have z9 := frozenAt hz 4
            have S9 := Lib.hid (S.toAny (q := b + 1 + 1) 0 rfl)
            have FR : Hid (∀ W', Sep w (anyR (b + 1 + 1) :: boxV (b + 1) y :: boxV b x :: Rs) W' → Sep w Rs W') := Lib.hid fun W' T => T.tail.tail.tail
            clear S hz
            go_wp2
            refine bodyPost_ret (v := .tuple #[.bool false, excZ]) (by simp [results, Tryz.results64, go_sem, z0, z1, z2, z3, z4]) rfl ⟨by rw [HM.out]; rfl, FR.out _ ?_⟩
            iterate 5 refine Sep.poke (q := b + 1 + 1) ?_ 0 rfl _ _
            exact S9.out
        · have hb2 : (kx != ky) = true := by simp [hkk]
          refine wp_region_sep (by kernel_rfl) (by kernel_rfl) (S) ?_
          repeat (first | go_big_quiet_skip | (go_big_quiet_want; apply Exists.intro; refine ⟨fun Wq hWq => ?_, ?_⟩; (focus (have d0 := wpVal x (hWq.box (b := b) 2 rfl); have d1 := wpVal y (hWq.box (b := b + 1) 1 rfl); obtain ⟨d00, d01, d02⟩ := d0; obtain ⟨d10, d11, d12⟩ := d1; go_simp; first | done | rfl | exact ⟨rfl, rfl⟩ | (with_reducible (first | exact KW.out _ hWq | exact KX.out _ hWq | exact KY.out _ hWq)))); go_big_quiet_on; simp only [Act.put, List.setIfInBounds_toArray, List.set_cons_zero, List.set_cons_succ]))
          refine wpQuiet_nil ?_
          intro wq hq
          have HM0 := Lib.hid (ST.out (.inr hkk))
          clear S
          have S := hq
          clear hq
          obtain ⟨d0, d1, d2, -⟩ := cells3 (S.box (b := b) (o := objV x) 2 rfl)
          obtain ⟨d3, d4, d5, -⟩ := cells3 (S.box (b := b + 1) (o := objV y) 1 rfl)
          have M := Lib.hid (KX.out _ S)
          clear S
          go_wp2_with fail
          refine M.out.mono ?_
          rintro e w7 ⟨rfl, S⟩
          clear M d0 d1 d2 d3 d4 d5
          by_cases hk0 : kx = 0
          · subst hk0
            have HM : Hid (H.sameF 0 x y = some (decide (x = y))) := Lib.hid (by rw [HM0.out]; simp)
            obtain ⟨d0, d1, d2, -⟩ := cells3 (S.box (b := b) (o := objV x) 2 rfl)
            obtain ⟨d3, d4, d5, -⟩ := cells3 (S.box (b := b + 1) (o := objV y) 1 rfl)
            have EQ1 := EQ.out
            have hz := S.box (b := b + 1 + 1) 0 rfl
            have z0 := cellAt hz 0 (v := .string ⟨#[]⟩) rfl
            have z1 := cellAt hz 1 (v := .int .i64 0) rfl
            have z2 := cellAt hz 2 (v := .int .i64 0) rfl
            have z3 := cellAt hz 3 (v := .string ⟨#[]⟩) rfl
            have z4 := cellAt hz 4 (v := .bool false) rfl
            have z5 := frozenAt hz 0
            have z6 := frozenAt hz 1
            have z7 := frozenAt hz 2
            have z8 := frozenAt hz 3
            have z9 := frozenAt hz 4
            have S9 := Lib.hid (S.toAny (q := b + 1 + 1) 0 rfl)
            have FR : Hid (∀ W', Sep w (anyR (b + 1 + 1) :: boxV (b + 1) y :: boxV b x :: Rs) W' → Sep w Rs W') := Lib.hid fun W' T => T.tail.tail.tail
            clear S hz
            go_wp2
            refine bodyPost_ret (v := .tuple #[.bool (decide (x = y)), excZ]) (by simp [results, Tryz.results64, go_sem, z0, z1, z2, z3, z4]) rfl ⟨by rw [HM.out]; rfl, FR.out _ ?_⟩
            iterate 5 refine Sep.poke (q := b + 1 + 1) ?_ 0 rfl _ _
            exact S9.out
          · have hk1 : (kx == 0) = false := by simp [hk0]
            obtain ⟨d0, d1, d2, -⟩ := cells3 (S.box (b := b) (o := objV x) 2 rfl)
            obtain ⟨d3, d4, d5, -⟩ := cells3 (S.box (b := b + 1) (o := objV y) 1 rfl)
            have M := Lib.hid (KY.out _ S)
            clear S
            go_wp2_with fail
            refine M.out.mono ?_
            rintro e w8 ⟨rfl, S⟩
            clear M d0 d1 d2 d3 d4 d5
            by_cases hm0 : ky = 0
            · subst hm0
              have HM : Hid (H.sameF 0 x y = some (decide (x = y))) := Lib.hid (by rw [HM0.out]; simp)
              obtain ⟨d0, d1, d2, -⟩ := cells3 (S.box (b := b) (o := objV x) 2 rfl)
              obtain ⟨d3, d4, d5, -⟩ := cells3 (S.box (b := b + 1) (o := objV y) 1 rfl)
              have EQ1 := EQ.out
              have hz := S.box (b := b + 1 + 1) 0 rfl
              have z0 := cellAt hz 0 (v := .string ⟨#[]⟩) rfl
              have z1 := cellAt hz 1 (v := .int .i64 0) rfl
              have z2 := cellAt hz 2 (v := .int .i64 0) rfl
              have z3 := cellAt hz 3 (v := .string ⟨#[]⟩) rfl
              have z4 := cellAt hz 4 (v := .bool false) rfl
              have z5 := frozenAt hz 0
              have z6 := frozenAt hz 1
              have z7 := frozenAt hz 2
              have z8 := frozenAt hz 3
              have z9 := frozenAt hz 4
              have S9 := Lib.hid (S.toAny (q := b + 1 + 1) 0 rfl)
              have FR : Hid (∀ W', Sep w (anyR (b + 1 + 1) :: boxV (b + 1) y :: boxV b x :: Rs) W' → Sep w Rs W') := Lib.hid fun W' T => T.tail.tail.tail
              clear S hz
              go_wp2
              refine bodyPost_ret (v := .tuple #[.bool (decide (x = y)), excZ]) (by simp [results, Tryz.results64, go_sem, z0, z1, z2, z3, z4]) rfl ⟨by rw [HM.out]; rfl, FR.out _ ?_⟩
              iterate 5 refine Sep.poke (q := b + 1 + 1) ?_ 0 rfl _ _
              exact S9.out
            · have hm1 : (ky == 0) = false := by simp [hm0]
              have HM : Hid (H.sameF 0 x y = some false) := Lib.hid (by rw [HM0.out]; simp [hk0, hm0])
              obtain ⟨d0, d1, d2, -⟩ := cells3 (S.box (b := b) (o := objV x) 2 rfl)
              obtain ⟨d3, d4, d5, -⟩ := cells3 (S.box (b := b + 1) (o := objV y) 1 rfl)
              have EQ1 := EQ.out
              have hz := S.box (b := b + 1 + 1) 0 rfl
              have z0 := cellAt hz 0 (v := .string ⟨#[]⟩) rfl
              have z1 := cellAt hz 1 (v := .int .i64 0) rfl
              have z2 := cellAt hz 2 (v := .int .i64 0) rfl
              have z3 := cellAt hz 3 (v := .string ⟨#[]⟩) rfl
              have z4 := cellAt hz 4 (v := .bool false) rfl
              have z5 := frozenAt hz 0
              have z6 := frozenAt hz 1
              have z7 := frozenAt hz 2
              have z8 := frozenAt hz 3
              have z9 := frozenAt hz 4
              have S9 := Lib.hid (S.toAny (q := b + 1 + 1) 0 rfl)
              have FR : Hid (∀ W', Sep w (anyR (b + 1 + 1) :: boxV (b + 1) y :: boxV b x :: Rs) W' → Sep w Rs W') := Lib.hid fun W' T => T.tail.tail.tail
              clear S hz
              go_wp2
              refine bodyPost_ret (v := .tuple #[.bool (false), excZ]) (by simp [results, Tryz.results64, go_sem, z0, z1, z2, z3, z4]) rfl ⟨by rw [HM.out]; rfl, FR.out _ ?_⟩
              iterate 5 refine Sep.poke (q := b + 1 + 1) ?_ 0 rfl _ _
              exact S9.out
  | succ f IH =>
    intro Rs W S i hi x y d hd hd0
    have hd1 : d < 30 := by omega
    have hd2 : d + 1 + (f : Int) = 30 := by omega
    have SF : H.sameF (f + 1) x y = H.sameT x y (if H.kind x = 3 then allM (fun k : V => match H.get y k with | none => some false | some z => H.sameF f ((H.get x k).getD V.zero) z) ((H.pairs x).map (·.1)) else allM (fun p : V × V => H.sameF f p.1 p.2) ((H.items x).zip (H.items y))) := rfl
    obtain ⟨b, hb⟩ : ∃ gx_, (W.heap.size) = gx_ := ⟨_, rfl⟩
    have S1 := ((S.alloc (.cells #[.int .i64 x.kind, .int .i64 x.n, .string x.s] 29)).alloc (.cells #[.int .i64 y.kind, .int .i64 y.n, .string y.s] 29)).alloc (.cells #[.string ⟨#[]⟩, .int .i64 0, .int .i64 0, .string ⟨#[]⟩, .bool false] 38)
    simp only [World.size_alloc, hb] at S1
    obtain ⟨r1, hr1⟩ : ∃ r, H.oneB x y = r := ⟨_, rfl⟩
    obtain ⟨r2, hr2⟩ : ∃ r, H.wholeB x = r := ⟨_, rfl⟩
    obtain ⟨kx, hkx⟩ : ∃ k, H.kind x = k := ⟨_, rfl⟩
    obtain ⟨ky, hky⟩ : ∃ k, H.kind y = k := ⟨_, rfl⟩
    obtain ⟨nx, hnx⟩ : ∃ k, H.sizeB x = k := ⟨_, rfl⟩
    obtain ⟨ny, hny⟩ : ∃ k, H.sizeB y = k := ⟨_, rfl⟩
    have HV := Lib.hid (And.intro hi (And.intro hr1 (And.intro hr2 (And.intro hkx (And.intro hky (And.intro hnx hny))))))
    have HF := Lib.hid SF
    replace S1 : Sep w (boxE (b + 1 + 1) :: boxV (b + 1) y :: boxV b x :: Rs) _ := S1
    have S := S1
    clear S1
    clear hi hr1 hr2 hkx hky hnx hny SF
    obtain ⟨d0, d1, d2, -⟩ := cells3 (S.box (b := b) (o := objV x) 2 rfl)
    obtain ⟨d3, d4, d5, -⟩ := cells3 (S.box (b := b + 1) (o := objV y) 1 rfl)
    have M := Lib.hid (one_ok S (i + 3) (by simpa using HV.out.1) x y r1 HV.out.2.1)
    clear S
    go_enter Tryz.func64, Tryz.ntmps64
    go_wp2_with fail
    try simp only [World.size_alloc, hb]
    refine M.out.mono ?_
    rintro e w1 ⟨rfl, S⟩
    clear M hb d0 d1 d2 d3 d4 d5
    cases r1 with
    | true =>
      have HM : Hid (H.sameF (f + 1) x y = some true) := Lib.hid (by rw [HF.out]; unfold HeapM.sameT; rw [if_pos HV.out.2.1])
      have hz := S.box (b := b + 1 + 1) 0 rfl
      have z0 := cellAt hz 0 (v := .string ⟨#[]⟩) rfl
      have z1 := cellAt hz 1 (v := .int .i64 0) rfl
      have z2 := cellAt hz 2 (v := .int .i64 0) rfl
      have z3 := cellAt hz 3 (v := .string ⟨#[]⟩) rfl
      have z4 := cellAt hz 4 (v := .bool false) rfl
      have z5 := frozenAt hz 0
      have z6 := frozenAt hz 1
      have z7 := frozenAt hz 2
      have z8 := frozenAt hz 3
      have z9 := frozenAt hz 4
      have S9 := Lib.hid (S.toAny (q := b + 1 + 1) 0 rfl)
      have FR : Hid (∀ W', Sep w (anyR (b + 1 + 1) :: boxV (b + 1) y :: boxV b x :: Rs) W' → Sep w Rs W') := Lib.hid fun W' T => T.tail.tail.tail
      clear S hz
      go_wp2
      refine bodyPost_ret (v := .tuple #[.bool true, excZ]) (by simp [results, Tryz.results64, go_sem, z0, z1, z2, z3, z4]) rfl ⟨by rw [HM.out]; rfl, FR.out _ ?_⟩
      iterate 5 refine Sep.poke (q := b + 1 + 1) ?_ 0 rfl _ _
      exact S9.out
    | false =>
      have KW := Lib.hid (fun W (S : Sep w (boxE (b + 1 + 1) :: boxV (b + 1) y :: boxV b x :: Rs) W) => whole_ok S (i + 3) (by simpa using HV.out.1) x r2 HV.out.2.2.1)
      have KX := Lib.hid (fun W (S : Sep w (boxE (b + 1 + 1) :: boxV (b + 1) y :: boxV b x :: Rs) W) => kind_at S (i + 3) (by simpa using HV.out.1) x kx HV.out.2.2.2.1)
      have KY := Lib.hid (fun W (S : Sep w (boxE (b + 1 + 1) :: boxV (b + 1) y :: boxV b x :: Rs) W) => kind_at S (i + 3) (by simpa using HV.out.1) y ky HV.out.2.2.2.2.1)
      have KA := Lib.hid (fun W (S : Sep w (boxE (b + 1 + 1) :: boxV (b + 1) y :: boxV b x :: Rs) W) => sizeB_ok S (i + 3) (by simpa using HV.out.1) x nx HV.out.2.2.2.2.2.1)
      have KB := Lib.hid (fun W (S : Sep w (boxE (b + 1 + 1) :: boxV (b + 1) y :: boxV b x :: Rs) W) => sizeB_ok S (i + 3) (by simpa using HV.out.1) y ny HV.out.2.2.2.2.2.2)
      have ST : Hid (r2 = false ∨ kx ≠ ky → H.sameF (f + 1) x y = some ((decide (kx = 0) || decide (ky = 0)) && decide (x = y))) := Lib.hid fun hh => by rw [HF.out]; unfold HeapM.sameT; rw [if_neg (by rw [HV.out.2.1]; simp), HV.out.2.2.2.1, HV.out.2.2.2.2.1, if_pos (by rw [HV.out.2.2.1]; exact hh)]
      have SZ : Hid (r2 = true → kx = ky → H.sameF (f + 1) x y = if nx ≠ ny then some false else (if H.kind x = 3 then allM (fun k : V => match H.get y k with | none => some false | some z => H.sameF f ((H.get x k).getD V.zero) z) ((H.pairs x).map (·.1)) else allM (fun p : V × V => H.sameF f p.1 p.2) ((H.items x).zip (H.items y)))) := Lib.hid fun h1 h2 => by rw [HF.out]; unfold HeapM.sameT; rw [if_neg (by rw [HV.out.2.1]; simp), if_neg (by rw [HV.out.2.2.1, HV.out.2.2.2.1, HV.out.2.2.2.2.1]; simp [h1, h2]), HV.out.2.2.2.2.2.1, HV.out.2.2.2.2.2.2]
      have EQ := Lib.hid (fun W => eql_vals W x y (decide (x = y)) rfl)
      go_upto_region 3 with fail
      cases r2 with
      | false =>
        refine wp_region_sep (by kernel_rfl) (by kernel_rfl) (S) ?_
        repeat (first | go_big_quiet_skip | (go_big_quiet_want; apply Exists.intro; refine ⟨fun Wq hWq => ?_, ?_⟩; (focus (have d0 := wpVal x (hWq.box (b := b) 2 rfl); have d1 := wpVal y (hWq.box (b := b + 1) 1 rfl); obtain ⟨d00, d01, d02⟩ := d0; obtain ⟨d10, d11, d12⟩ := d1; go_simp; first | done | rfl | exact ⟨rfl, rfl⟩ | (with_reducible (exact KW.out _ hWq)))); go_big_quiet_on; simp only [Act.put, List.setIfInBounds_toArray, List.set_cons_zero, List.set_cons_succ]))
        refine wpQuiet_nil ?_
        intro wq hq
        have HM0 := Lib.hid (ST.out (.inl rfl))
        clear S
        have S := hq
        clear hq
        obtain ⟨d0, d1, d2, -⟩ := cells3 (S.box (b := b) (o := objV x) 2 rfl)
        obtain ⟨d3, d4, d5, -⟩ := cells3 (S.box (b := b + 1) (o := objV y) 1 rfl)
        have M := Lib.hid (KX.out _ S)
        clear S
        go_wp2_with fail
        refine M.out.mono ?_
        rintro e w7 ⟨rfl, S⟩
        clear M d0 d1 d2 d3 d4 d5
        by_cases hk0 : kx = 0
        · subst hk0
          have HM : Hid (H.sameF (f + 1) x y = some (decide (x = y))) := Lib.hid (by rw [HM0.out]; simp)
          obtain ⟨d0, d1, d2, -⟩ := cells3 (S.box (b := b) (o := objV x) 2 rfl)
          obtain ⟨d3, d4, d5, -⟩ := cells3 (S.box (b := b + 1) (o := objV y) 1 rfl)
          have EQ1 := EQ.out
          have hz := S.box (b := b + 1 + 1) 0 rfl
          have z0 := cellAt hz 0 (v := .string ⟨#[]⟩) rfl
          have z1 := cellAt hz 1 (v := .int .i64 0) rfl
          have z2 := cellAt hz 2 (v := .int .i64 0) rfl
          have z3 := cellAt hz 3 (v := .string ⟨#[]⟩) rfl
          have z4 := cellAt hz 4 (v := .bool false) rfl
          have z5 := frozenAt hz 0
          have z6 := frozenAt hz 1
          have z7 := frozenAt hz 2
          have z8 := frozenAt hz 3
          have z9 := frozenAt hz 4
          have S9 := Lib.hid (S.toAny (q := b + 1 + 1) 0 rfl)
          have FR : Hid (∀ W', Sep w (anyR (b + 1 + 1) :: boxV (b + 1) y :: boxV b x :: Rs) W' → Sep w Rs W') := Lib.hid fun W' T => T.tail.tail.tail
          clear S hz
          go_wp2
          refine bodyPost_ret (v := .tuple #[.bool (decide (x = y)), excZ]) (by simp [results, Tryz.results64, go_sem, z0, z1, z2, z3, z4]) rfl ⟨by rw [HM.out]; rfl, FR.out _ ?_⟩
          iterate 5 refine Sep.poke (q := b + 1 + 1) ?_ 0 rfl _ _
          exact S9.out
        · have hk1 : (kx == 0) = false := by simp [hk0]
          obtain ⟨d0, d1, d2, -⟩ := cells3 (S.box (b := b) (o := objV x) 2 rfl)
          obtain ⟨d3, d4, d5, -⟩ := cells3 (S.box (b := b + 1) (o := objV y) 1 rfl)
          have M := Lib.hid (KY.out _ S)
          clear S
          go_wp2_with fail
          refine M.out.mono ?_
          rintro e w8 ⟨rfl, S⟩
          clear M d0 d1 d2 d3 d4 d5
          by_cases hm0 : ky = 0
          · subst hm0
            have HM : Hid (H.sameF (f + 1) x y = some (decide (x = y))) := Lib.hid (by rw [HM0.out]; simp)
            obtain ⟨d0, d1, d2, -⟩ := cells3 (S.box (b := b) (o := objV x) 2 rfl)
            obtain ⟨d3, d4, d5, -⟩ := cells3 (S.box (b := b + 1) (o := objV y) 1 rfl)
            have EQ1 := EQ.out
            have hz := S.box (b := b + 1 + 1) 0 rfl
            have z0 := cellAt hz 0 (v := .string ⟨#[]⟩) rfl
            have z1 := cellAt hz 1 (v := .int .i64 0) rfl
            have z2 := cellAt hz 2 (v := .int .i64 0) rfl
            have z3 := cellAt hz 3 (v := .string ⟨#[]⟩) rfl
            have z4 := cellAt hz 4 (v := .bool false) rfl
            have z5 := frozenAt hz 0
            have z6 := frozenAt hz 1
            have z7 := frozenAt hz 2
            have z8 := frozenAt hz 3
            have z9 := frozenAt hz 4
            have S9 := Lib.hid (S.toAny (q := b + 1 + 1) 0 rfl)
            have FR : Hid (∀ W', Sep w (anyR (b + 1 + 1) :: boxV (b + 1) y :: boxV b x :: Rs) W' → Sep w Rs W') := Lib.hid fun W' T => T.tail.tail.tail
            clear S hz
            go_wp2
            refine bodyPost_ret (v := .tuple #[.bool (decide (x = y)), excZ]) (by simp [results, Tryz.results64, go_sem, z0, z1, z2, z3, z4]) rfl ⟨by rw [HM.out]; rfl, FR.out _ ?_⟩
            iterate 5 refine Sep.poke (q := b + 1 + 1) ?_ 0 rfl _ _
            exact S9.out
          · have hm1 : (ky == 0) = false := by simp [hm0]
            have HM : Hid (H.sameF (f + 1) x y = some false) := Lib.hid (by rw [HM0.out]; simp [hk0, hm0])
            obtain ⟨d0, d1, d2, -⟩ := cells3 (S.box (b := b) (o := objV x) 2 rfl)
            obtain ⟨d3, d4, d5, -⟩ := cells3 (S.box (b := b + 1) (o := objV y) 1 rfl)
            have EQ1 := EQ.out
            have hz := S.box (b := b + 1 + 1) 0 rfl
            have z0 := cellAt hz 0 (v := .string ⟨#[]⟩) rfl
            have z1 := cellAt hz 1 (v := .int .i64 0) rfl
            have z2 := cellAt hz 2 (v := .int .i64 0) rfl
            have z3 := cellAt hz 3 (v := .string ⟨#[]⟩) rfl
            have z4 := cellAt hz 4 (v := .bool false) rfl
            have z5 := frozenAt hz 0
            have z6 := frozenAt hz 1
            have z7 := frozenAt hz 2
            have z8 := frozenAt hz 3
            have z9 := frozenAt hz 4
            have S9 := Lib.hid (S.toAny (q := b + 1 + 1) 0 rfl)
            have FR : Hid (∀ W', Sep w (anyR (b + 1 + 1) :: boxV (b + 1) y :: boxV b x :: Rs) W' → Sep w Rs W') := Lib.hid fun W' T => T.tail.tail.tail
            clear S hz
            go_wp2
            refine bodyPost_ret (v := .tuple #[.bool (false), excZ]) (by simp [results, Tryz.results64, go_sem, z0, z1, z2, z3, z4]) rfl ⟨by rw [HM.out]; rfl, FR.out _ ?_⟩
            iterate 5 refine Sep.poke (q := b + 1 + 1) ?_ 0 rfl _ _
            exact S9.out
      | true =>
        by_cases hkk : kx = ky
        · subst hkk
          have hb2 : (kx != kx) = false := by simp
          refine wp_region_sep (by kernel_rfl) (by kernel_rfl) (S) ?_
          repeat (first | go_big_quiet_skip | (go_big_quiet_want; apply Exists.intro; refine ⟨fun Wq hWq => ?_, ?_⟩; (focus (have d0 := wpVal x (hWq.box (b := b) 2 rfl); have d1 := wpVal y (hWq.box (b := b + 1) 1 rfl); obtain ⟨d00, d01, d02⟩ := d0; obtain ⟨d10, d11, d12⟩ := d1; go_simp; first | done | rfl | exact ⟨rfl, rfl⟩ | (with_reducible (first | exact KW.out _ hWq | exact KX.out _ hWq | exact KY.out _ hWq)))); go_big_quiet_on; simp only [Act.put, List.setIfInBounds_toArray, List.set_cons_zero, List.set_cons_succ]))
          refine wpQuiet_nil ?_
          intro wq hq
          clear S
          have S := hq
          clear hq hb2
          go_upto_region 5 with fail
          refine wp_region_sep (by kernel_rfl) (by kernel_rfl) (S) ?_
          repeat (first | go_big_quiet_skip | (go_big_quiet_want; apply Exists.intro; refine ⟨fun Wq hWq => ?_, ?_⟩; (focus (have d0 := wpVal x (hWq.box (b := b) 2 rfl); have d1 := wpVal y (hWq.box (b := b + 1) 1 rfl); obtain ⟨d00, d01, d02⟩ := d0; obtain ⟨d10, d11, d12⟩ := d1; go_simp; first | done | rfl | exact ⟨rfl, rfl⟩ | (with_reducible (first | exact KA.out _ hWq | exact KB.out _ hWq)))); go_big_quiet_on; simp only [Act.put, List.setIfInBounds_toArray, List.set_cons_zero, List.set_cons_succ]))
          refine wpQuiet_nil ?_
          intro wq hq
          clear S
          have S := hq
          clear hq
          have HM0 := Lib.hid (SZ.out rfl rfl)
          clear ST SZ KW KA KB EQ
          by_cases hnn : nx = ny
          · subst hnn
            obtain ⟨X3, hX3⟩ : ∃ X3, allM (fun k : V => match H.get y k with | none => some false | some z => H.sameF f ((H.get x k).getD V.zero) z) ((H.pairs x).map (·.1)) = X3 := ⟨_, rfl⟩
            obtain ⟨X4, hX4⟩ : ∃ X4, allM (fun p : V × V => H.sameF f p.1 p.2) ((H.items x).zip (H.items y)) = X4 := ⟨_, rfl⟩
            have HM1 : H.sameF (f + 1) x y = if H.kind x = 3 then X3 else X4 := by rw [HM0.out, ← hX3, ← hX4]; simp
            rw [HV.out.2.2.2.1] at HM1
            have HM2 := Lib.hid HM1
            have HX := Lib.hid (And.intro hX3 hX4)
            have hd3 : 0 ≤ d + 1 := by omega
            have IHT : Hid (∀ {Rs : List Res} {W : World} (S : Sep w Rs W) (i : Nat) (hi : Rs[i]? = some (heapR h H)) (a b : V) (c : Bool) (hq : H.sameF f a b = some c), Calls Tryz.prog 64 #[.pointer (some ⟨h, 0, none⟩), .agg #[.int .i64 a.kind, .int .i64 a.n, .string a.s], .agg #[.int .i64 b.kind, .int .i64 b.n, .string b.s], .int .i64 (d + 1)] W fun e W' => e = .returned (.tuple #[.bool c, excZ]) ∧ Sep w Rs W') := Lib.hid fun S i hi a b c hq => by
              have := IH S i hi a b (d + 1) hd2 hd3
              rw [hq] at this; exact this
            have IHN : Hid (∀ {Rs : List Res} {W : World} (S : Sep w Rs W) (i : Nat) (hi : Rs[i]? = some (heapR h H)) (a b : V) (hq : H.sameF f a b = none), Calls Tryz.prog 64 #[.pointer (some ⟨h, 0, none⟩), .agg #[.int .i64 a.kind, .int .i64 a.n, .string a.s], .agg #[.int .i64 b.kind, .int .i64 b.n, .string b.s], .int .i64 (d + 1)] W fun e W' => e = .returned (.tuple #[.bool false, excN recursionError]) ∧ Sep w Rs W') := Lib.hid fun S i hi a b hq => by
              have := IH S i hi a b (d + 1) hd2 hd3
              rw [hq] at this; exact this
            clear HM1 HM0 hX3 hX4 IH hd hd2
            obtain ⟨d0, d1, d2, -⟩ := cells3 (S.box (b := b) (o := objV x) 2 rfl)
            have M := Lib.hid (KX.out _ S)
            clear S
            go_wp2_with fail
            refine M.out.mono ?_
            rintro e w2 ⟨rfl, S⟩
            clear M d0 d1 d2
            by_cases hk3 : kx = 3
            · subst hk3
              have HM3 : Hid (H.sameF (f + 1) x y = X3) := Lib.hid (by rw [HM2.out]; rfl)
              obtain ⟨KS, hKS⟩ : ∃ KS, (H.pairs x).map (·.1) = KS := ⟨_, rfl⟩
              obtain ⟨p, hp⟩ : ∃ p : V → Option Bool, p = fun k : V => match H.get y k with | none => some false | some z => H.sameF f ((H.get x k).getD V.zero) z := ⟨_, rfl⟩
              have PK : Hid (H.sameF (f + 1) x y = allM p KS) := Lib.hid (by rw [HM3.out, ← HX.out.1, hKS, hp])
              have P0 : Hid (∀ k, (H.get y k).isSome = false → p k = some false) := Lib.hid fun k hh => by
                cases e : H.get y k with
                | none => rw [hp]; simp only [e]
                | some z => rw [e] at hh; cases hh
              have P1 : Hid (∀ k, (H.get y k).isSome = true → p k = H.sameF f ((H.get x k).getD V.zero) ((H.get y k).getD V.zero)) := Lib.hid fun k hh => by
                cases e : H.get y k with
                | none => rw [e] at hh; cases hh
                | some z => rw [hp]; simp only [e, Option.getD_some]
              have hkl : KS.length ≤ 4096 + KS.length := by omega
              have HKS := Lib.hid hKS
              clear hp hKS hkl
              obtain ⟨d0, d1, d2, -⟩ := cells3 (S.box (b := b) (o := objV x) 2 rfl)
              have M := Lib.hid (keys_at S (i + 3) (by simpa using HV.out.1) x KS HKS.out)
              clear S
              go_wp2_with fail
              refine M.out.mono ?_
              rintro e w3 ⟨ka, kc, rfl, S⟩
              clear M d0 d1 d2
              have hkl : KS.length ≤ 9223372036854775807 := by obtain ⟨_, _, e0, p1, p2, _⟩ := (S.row 0 rfl).sees'; cases e0; unfold maxLen at p2; omega
              replace S := Lib.hid S
              go_wp2
              go_loopw [80] (fun kv wr => ∃ k : Nat, k ≤ KS.length ∧ kv = .int .i64 k ∧ (∀ z ∈ KS.take k, p z = some true) ∧ Sep w (valsR (.slice ka KS.length kc) KS :: boxE (b + 1 + 1) :: boxV (b + 1) y :: boxV b x :: Rs) wr) (fun kv _ => KS.length - (intOf kv).toNat)
              case atStart => exact ⟨0, by omega, rfl, by simp, S.out⟩
              case round =>
                clear S
                obtain ⟨k, hk, rfl, hall, S⟩ := hrel
                have hki : (k : Int) ≤ KS.length := by omega
                have hkm : (KS.length : Int) ≤ 9223372036854775807 := by omega
                by_cases hlt : k < KS.length
                · have hlti : (k : Int) < KS.length := by omega
                  obtain ⟨key, hkey⟩ : ∃ key, KS[k]? = some key := ⟨KS[k], by simp [hlt]⟩
                  obtain ⟨g, og, rfl, hcell⟩ := (S.row 0 rfl).sees'.three hkey
                  obtain ⟨c0, c1, c2⟩ := hcell k key hkey
                  have hk0 : (0 : Int) ≤ k := by omega
                  obtain ⟨xv, hxv⟩ : ∃ v, (H.get x key).getD V.zero = v := ⟨_, rfl⟩
                  obtain ⟨xr, hxr⟩ : ∃ v, (H.get x key).isSome = v := ⟨_, rfl⟩
                  obtain ⟨yv, hyv⟩ : ∃ v, (H.get y key).getD V.zero = v := ⟨_, rfl⟩
                  obtain ⟨yr, hyr⟩ : ∃ v, (H.get y key).isSome = v := ⟨_, rfl⟩
                  have HK := Lib.hid (And.intro hkey (And.intro hlt (And.intro hall (And.intro hxv (And.intro hxr (And.intro hyv hyr))))))
                  have HK1 := Lib.hid (And.intro hk hkl)
                  clear hcell hkey hlt hall hxv hxr hyv hyr hk hkl
                  obtain ⟨kb, hkb⟩ : ∃ gx_, (wr.heap.size) = gx_ := ⟨_, rfl⟩
                  replace S := (S.alloc (.cells #[.int .i64 key.kind, .int .i64 key.n, .string key.s] 29))
                  simp only [World.size_alloc, hkb] at S
                  replace S : Sep w (boxV kb key :: valsR (.slice (some ⟨g, og, none⟩) KS.length kc) KS :: boxE (b + 1 + 1) :: boxV (b + 1) y :: boxV b x :: Rs) _ := S
                  obtain ⟨d0, d1, d2, -⟩ := cells3 (S.box (b := b) (o := objV x) 4 rfl)
                  obtain ⟨d3, d4, d5, -⟩ := cells3 (S.box (b := kb) (o := objV key) 0 rfl)
                  have M := Lib.hid (get_at S (i + 5) (by simpa using HV.out.1) x key xv xr HK.out.2.2.2.1 HK.out.2.2.2.2.1)
                  clear S
                  go_wp2_with fail
                  try simp only [hkb]
                  refine M.out.mono ?_
                  rintro e w4 ⟨rfl, S⟩
                  clear M d0 d1 d2 d3 d4 d5 hkb
                  clear c0 c1 c2
                  obtain ⟨xb, hxb⟩ : ∃ gx_, (w4.heap.size) = gx_ := ⟨_, rfl⟩
                  replace S := (S.alloc (.cells #[.int .i64 xv.kind, .int .i64 xv.n, .string xv.s] 29))
                  simp only [World.size_alloc, hxb] at S
                  replace S : Sep w (boxV xb xv :: boxV kb key :: valsR (.slice (some ⟨g, og, none⟩) KS.length kc) KS :: boxE (b + 1 + 1) :: boxV (b + 1) y :: boxV b x :: Rs) _ := S
                  obtain ⟨d0, d1, d2, -⟩ := cells3 (S.box (b := b + 1) (o := objV y) 4 rfl)
                  obtain ⟨d3, d4, d5, -⟩ := cells3 (S.box (b := kb) (o := objV key) 1 rfl)
                  have M := Lib.hid (get_at S (i + 6) (by simpa using HV.out.1) y key yv yr HK.out.2.2.2.2.2.1 HK.out.2.2.2.2.2.2)
                  clear S
                  go_wp2_with fail
                  try simp only [hxb]
                  refine M.out.mono ?_
                  rintro e w5 ⟨rfl, S⟩
                  clear M d0 d1 d2 d3 d4 d5 hxb
                  obtain ⟨yb, hyb⟩ : ∃ gx_, (w5.heap.size) = gx_ := ⟨_, rfl⟩
                  replace S := (S.alloc (.cells #[.int .i64 yv.kind, .int .i64 yv.n, .string yv.s] 29))
                  simp only [World.size_alloc, hyb] at S
                  replace S : Sep w (boxV yb yv :: boxV xb xv :: boxV kb key :: valsR (.slice (some ⟨g, og, none⟩) KS.length kc) KS :: boxE (b + 1 + 1) :: boxV (b + 1) y :: boxV b x :: Rs) _ := S
                  cases yr with
                  | false =>
                    have HM : Hid (H.sameF (f + 1) x y = some false) := Lib.hid (by have e := P0.out key HK.out.2.2.2.2.2.2; rw [PK.out, allM_stop HK.out.1 HK.out.2.2.1 (by rw [e]; simp), e])
                    have hz := S.box (b := b + 1 + 1) 4 rfl
                    have z0 := cellAt hz 0 (v := .string ⟨#[]⟩) rfl
                    have z1 := cellAt hz 1 (v := .int .i64 0) rfl
                    have z2 := cellAt hz 2 (v := .int .i64 0) rfl
                    have z3 := cellAt hz 3 (v := .string ⟨#[]⟩) rfl
                    have z4 := cellAt hz 4 (v := .bool false) rfl
                    have z5 := frozenAt hz 0
                    have z6 := frozenAt hz 1
                    have z7 := frozenAt hz 2
                    have z8 := frozenAt hz 3
                    have z9 := frozenAt hz 4
                    have S9 := Lib.hid (S.toAny (q := b + 1 + 1) 4 rfl)
                    have FR : Hid (∀ W', Sep w (boxV yb yv :: boxV xb xv :: boxV kb key :: valsR (.slice (some ⟨g, og, none⟩) KS.length kc) KS :: anyR (b + 1 + 1) :: boxV (b + 1) y :: boxV b x :: Rs) W' → Sep w Rs W') := Lib.hid fun W' T => T.tail.tail.tail.tail.tail.tail.tail
                    clear S hz
                    go_wp2
                    try simp only [hyb]
                    refine bodyPost_ret (v := .tuple #[.bool false, excZ]) (by simp [results, Tryz.results64, go_sem, z0, z1, z2, z3, z4]) rfl ⟨by rw [HM.out]; rfl, FR.out _ ?_⟩
                    iterate 5 refine Sep.poke (q := b + 1 + 1) ?_ 4 rfl _ _
                    exact S9.out
                  | true =>
                    have HP1 : Hid (p key = H.sameF f xv yv) := Lib.hid (by rw [P1.out key HK.out.2.2.2.2.2.2, HK.out.2.2.2.1, HK.out.2.2.2.2.2.1])
                    obtain ⟨q, hq⟩ : ∃ q, H.sameF f xv yv = q := ⟨_, rfl⟩
                    match q, hq with
                    | some true, hq =>
                      have HQ := Lib.hid hq
                      clear hq
                      obtain ⟨d0, d1, d2, -⟩ := cells3 (S.box (b := xb) (o := objV xv) 1 rfl)
                      obtain ⟨d3, d4, d5, -⟩ := cells3 (S.box (b := yb) (o := objV yv) 0 rfl)
                      have M := Lib.hid (IHT.out S (i + 7) (by simpa using HV.out.1) xv yv true HQ.out)
                      clear S
                      go_wp2_with fail
                      try simp only [hyb]
                      refine M.out.mono ?_
                      rintro e w6 ⟨rfl, S⟩
                      clear M d0 d1 d2 d3 d4 d5 hyb
                      obtain ⟨eb, heb⟩ : ∃ gx_, (w6.heap.size) = gx_ := ⟨_, rfl⟩
                      replace S := (S.alloc (.cells #[.string ⟨#[]⟩, .int .i64 0, .int .i64 0, .string ⟨#[]⟩, .bool false] 38))
                      simp only [World.size_alloc, heb] at S
                      replace S : Sep w (boxE eb :: boxV yb yv :: boxV xb xv :: boxV kb key :: valsR (.slice (some ⟨g, og, none⟩) KS.length kc) KS :: boxE (b + 1 + 1) :: boxV (b + 1) y :: boxV b x :: Rs) _ := S
                      have FR : Hid (∀ W', Sep w (boxE eb :: boxV yb yv :: boxV xb xv :: boxV kb key :: valsR (.slice (some ⟨g, og, none⟩) KS.length kc) KS :: boxE (b + 1 + 1) :: boxV (b + 1) y :: boxV b x :: Rs) W' → Sep w (valsR (.slice (some ⟨g, og, none⟩) KS.length kc) KS :: boxE (b + 1 + 1) :: boxV (b + 1) y :: boxV b x :: Rs) W') := Lib.hid fun W' T => T.tail.tail.tail.tail
                      have S9 := Lib.hid (FR.out _ S)
                      clear S FR
                      go_wp2
                      refine ⟨⟨k + 1, by have := HK.out.2.1; omega, by go_num, take_snoc HK.out.1 HK.out.2.2.1 (by rw [HP1.out, HQ.out]), S9.out⟩, by have := HK.out.2.1; simp [intOf]; omega⟩
                    | some false, hq =>
                      have HQ := Lib.hid hq
                      clear hq
                      obtain ⟨d0, d1, d2, -⟩ := cells3 (S.box (b := xb) (o := objV xv) 1 rfl)
                      obtain ⟨d3, d4, d5, -⟩ := cells3 (S.box (b := yb) (o := objV yv) 0 rfl)
                      have M := Lib.hid (IHT.out S (i + 7) (by simpa using HV.out.1) xv yv false HQ.out)
                      clear S
                      go_wp2_with fail
                      try simp only [hyb]
                      refine M.out.mono ?_
                      rintro e w6 ⟨rfl, S⟩
                      clear M d0 d1 d2 d3 d4 d5 hyb
                      obtain ⟨eb, heb⟩ : ∃ gx_, (w6.heap.size) = gx_ := ⟨_, rfl⟩
                      replace S := (S.alloc (.cells #[.string ⟨#[]⟩, .int .i64 0, .int .i64 0, .string ⟨#[]⟩, .bool false] 38))
                      simp only [World.size_alloc, heb] at S
                      replace S : Sep w (boxE eb :: boxV yb yv :: boxV xb xv :: boxV kb key :: valsR (.slice (some ⟨g, og, none⟩) KS.length kc) KS :: boxE (b + 1 + 1) :: boxV (b + 1) y :: boxV b x :: Rs) _ := S
                      obtain ⟨e0, e1, e2, e3, e4, -⟩ := cells5 (S.box (b := eb) (o := objE) 0 rfl)
                      have HM : Hid (H.sameF (f + 1) x y = some false) := Lib.hid (by rw [PK.out, allM_stop HK.out.1 HK.out.2.2.1 (by rw [HP1.out, HQ.out]; simp), HP1.out, HQ.out])
                      have hz := S.box (b := b + 1 + 1) 5 rfl
                      have z0 := cellAt hz 0 (v := .string ⟨#[]⟩) rfl
                      have z1 := cellAt hz 1 (v := .int .i64 0) rfl
                      have z2 := cellAt hz 2 (v := .int .i64 0) rfl
                      have z3 := cellAt hz 3 (v := .string ⟨#[]⟩) rfl
                      have z4 := cellAt hz 4 (v := .bool false) rfl
                      have z5 := frozenAt hz 0
                      have z6 := frozenAt hz 1
                      have z7 := frozenAt hz 2
                      have z8 := frozenAt hz 3
                      have z9 := frozenAt hz 4
                      have S9 := Lib.hid (S.toAny (q := b + 1 + 1) 5 rfl)
                      have FR : Hid (∀ W', Sep w (boxE eb :: boxV yb yv :: boxV xb xv :: boxV kb key :: valsR (.slice (some ⟨g, og, none⟩) KS.length kc) KS :: anyR (b + 1 + 1) :: boxV (b + 1) y :: boxV b x :: Rs) W' → Sep w Rs W') := Lib.hid fun W' T => T.tail.tail.tail.tail.tail.tail.tail.tail
                      clear S hz
                      go_wp2
                      try simp only [heb]
                      go_region
                      go_wp2
                      refine bodyPost_ret (v := .tuple #[.bool false, excZ]) (by simp [results, Tryz.results64, go_sem, z0, z1, z2, z3, z4]) rfl ⟨by rw [HM.out]; rfl, FR.out _ (Sep.drew ?_)⟩
                      iterate 5 refine Sep.poke (q := b + 1 + 1) ?_ 5 rfl _ _
                      exact S9.out
                    | none, hq =>
                      have HQ := Lib.hid hq
                      clear hq
                      obtain ⟨d0, d1, d2, -⟩ := cells3 (S.box (b := xb) (o := objV xv) 1 rfl)
                      obtain ⟨d3, d4, d5, -⟩ := cells3 (S.box (b := yb) (o := objV yv) 0 rfl)
                      have M := Lib.hid (IHN.out S (i + 7) (by simpa using HV.out.1) xv yv HQ.out)
                      clear S
                      go_wp2_with fail
                      try simp only [hyb]
                      refine M.out.mono ?_
                      rintro e w6 ⟨rfl, S⟩
                      clear M d0 d1 d2 d3 d4 d5 hyb
                      obtain ⟨eb, heb⟩ : ∃ gx_, (w6.heap.size) = gx_ := ⟨_, rfl⟩
                      replace S := (S.alloc (.cells #[.string ⟨#[82, 101, 99, 117, 114, 115, 105, 111, 110, 69, 114, 114, 111, 114]⟩, .int .i64 0, .int .i64 0, .string ⟨#[]⟩, .bool false] 38))
                      simp only [World.size_alloc, heb] at S
                      replace S : Sep w (boxN eb ⟨#[82, 101, 99, 117, 114, 115, 105, 111, 110, 69, 114, 114, 111, 114]⟩ :: boxV yb yv :: boxV xb xv :: boxV kb key :: valsR (.slice (some ⟨g, og, none⟩) KS.length kc) KS :: boxE (b + 1 + 1) :: boxV (b + 1) y :: boxV b x :: Rs) _ := S
                      obtain ⟨e0, e1, e2, e3, e4, -⟩ := cells5 (S.box (b := eb) (o := objN ⟨#[82, 101, 99, 117, 114, 115, 105, 111, 110, 69, 114, 114, 111, 114]⟩) 0 rfl)
                      have HM : Hid (H.sameF (f + 1) x y = none) := Lib.hid (by rw [PK.out, allM_stop HK.out.1 HK.out.2.2.1 (by rw [HP1.out, HQ.out]; simp), HP1.out, HQ.out])
                      have hz := S.box (b := b + 1 + 1) 5 rfl
                      have z0 := cellAt hz 0 (v := .string ⟨#[]⟩) rfl
                      have z1 := cellAt hz 1 (v := .int .i64 0) rfl
                      have z2 := cellAt hz 2 (v := .int .i64 0) rfl
                      have z3 := cellAt hz 3 (v := .string ⟨#[]⟩) rfl
                      have z4 := cellAt hz 4 (v := .bool false) rfl
                      have z5 := frozenAt hz 0
                      have z6 := frozenAt hz 1
                      have z7 := frozenAt hz 2
                      have z8 := frozenAt hz 3
                      have z9 := frozenAt hz 4
                      have S9 := Lib.hid (S.toAny (q := b + 1 + 1) 5 rfl)
                      have FR : Hid (∀ W', Sep w (boxN eb ⟨#[82, 101, 99, 117, 114, 115, 105, 111, 110, 69, 114, 114, 111, 114]⟩ :: boxV yb yv :: boxV xb xv :: boxV kb key :: valsR (.slice (some ⟨g, og, none⟩) KS.length kc) KS :: anyR (b + 1 + 1) :: boxV (b + 1) y :: boxV b x :: Rs) W' → Sep w Rs W') := Lib.hid fun W' T => T.tail.tail.tail.tail.tail.tail.tail.tail
                      clear S hz
                      go_wp2
                      try simp only [heb]
                      go_region
                      go_wp2
                      refine bodyPost_ret (v := .tuple #[.bool false, excN recursionError]) (by simp [results, Tryz.results64, go_sem, z0, z1, z2, z3, z4]) rfl ⟨by rw [HM.out]; rfl, FR.out _ (Sep.drew ?_)⟩
                      iterate 5 refine Sep.poke (q := b + 1 + 1) ?_ 5 rfl _ _
                      exact S9.out
                · have hkn : k = KS.length := by omega
                  subst hkn
                  rw [List.take_length] at hall
                  have HM : Hid (H.sameF (f + 1) x y = some true) := Lib.hid (by rw [PK.out, allM_all hall])
                  clear hall
                  have hz := S.box (b := b + 1 + 1) 1 rfl
                  have z0 := cellAt hz 0 (v := .string ⟨#[]⟩) rfl
                  have z1 := cellAt hz 1 (v := .int .i64 0) rfl
                  have z2 := cellAt hz 2 (v := .int .i64 0) rfl
                  have z3 := cellAt hz 3 (v := .string ⟨#[]⟩) rfl
                  have z4 := cellAt hz 4 (v := .bool false) rfl
                  have z5 := frozenAt hz 0
                  have z6 := frozenAt hz 1
                  have z7 := frozenAt hz 2
                  have z8 := frozenAt hz 3
                  have z9 := frozenAt hz 4
                  have S9 := Lib.hid (S.toAny (q := b + 1 + 1) 1 rfl)
                  have FR : Hid (∀ W', Sep w (valsR (.slice ka KS.length kc) KS :: anyR (b + 1 + 1) :: boxV (b + 1) y :: boxV b x :: Rs) W' → Sep w Rs W') := Lib.hid fun W' T => T.tail.tail.tail.tail
                  clear S hz
                  go_wp2
                  refine bodyPost_ret (v := .tuple #[.bool true, excZ]) (by simp [results, Tryz.results64, go_sem, z0, z1, z2, z3, z4]) rfl ⟨by rw [HM.out]; rfl, FR.out _ ?_⟩
                  iterate 5 refine Sep.poke (q := b + 1 + 1) ?_ 1 rfl _ _
                  exact S9.out
            · have hk31 : (kx == 3) = false := by simp [hk3]
              have HM3 : Hid (H.sameF (f + 1) x y = X4) := Lib.hid (by rw [HM2.out, if_neg hk3])
              obtain ⟨XS, hXS⟩ : ∃ l, H.items x = l := ⟨_, rfl⟩
              obtain ⟨YS, hYS⟩ : ∃ l, H.items y = l := ⟨_, rfl⟩
              have hxy : XS.length = YS.length := by
                have h1 := HV.out.2.2.2.2.2.1
                have h2 := HV.out.2.2.2.2.2.2
                unfold HeapM.sizeB at h1 h2
                rw [HV.out.2.2.2.1, if_neg hk3, hXS] at h1
                rw [HV.out.2.2.2.2.1, if_neg hk3, hYS] at h2
                omega
              have PK : Hid (H.sameF (f + 1) x y = allM (fun p : V × V => H.sameF f p.1 p.2) (XS.zip YS)) := Lib.hid (by rw [HM3.out, ← HX.out.2, hXS, hYS])
              have hzl : (XS.zip YS).length = XS.length := by rw [List.length_zip]; omega
              have HXS := Lib.hid (And.intro hXS (And.intro hYS (And.intro hxy hzl)))
              clear hXS hYS hxy hzl
              obtain ⟨d0, d1, d2, -⟩ := cells3 (S.box (b := b + 1) (o := objV y) 1 rfl)
              have M := Lib.hid (items_at S (i + 3) (by simpa using HV.out.1) G hN y YS HXS.out.2.1)
              clear S
              go_wp2_with fail
              refine M.out.mono ?_
              rintro e w3 ⟨ya, yc, rfl, S⟩
              clear M d0 d1 d2
              obtain ⟨d0, d1, d2, -⟩ := cells3 (S.box (b := b) (o := objV x) 3 rfl)
              have M := Lib.hid (items_at S (i + 4) (by simpa using HV.out.1) G hN x XS HXS.out.1)
              clear S
              go_wp2_with fail
              refine M.out.mono ?_
              rintro e w4 ⟨xa, xc, rfl, S⟩
              clear M d0 d1 d2
              have hkl : XS.length ≤ 9223372036854775807 := by obtain ⟨_, _, e0, p1, p2, _⟩ := (S.row 0 rfl).sees'; cases e0; unfold maxLen at p2; omega
              replace S := Lib.hid S
              go_wp2
              go_loopw [122] (fun kv wr => ∃ k : Nat, k ≤ XS.length ∧ kv = .int .i64 k ∧ (∀ z ∈ (XS.zip YS).take k, H.sameF f z.1 z.2 = some true) ∧ Sep w (valsR (.slice xa XS.length xc) XS :: valsR (.slice ya YS.length yc) YS :: boxE (b + 1 + 1) :: boxV (b + 1) y :: boxV b x :: Rs) wr) (fun kv _ => XS.length - (intOf kv).toNat)
              case atStart => exact ⟨0, by omega, rfl, by simp, S.out⟩
              case round =>
                clear S
                obtain ⟨k, hk, rfl, hall, S⟩ := hrel
                have hki : (k : Int) ≤ XS.length := by omega
                have hkm : (XS.length : Int) ≤ 9223372036854775807 := by omega
                by_cases hlt : k < XS.length
                · have hlti : (k : Int) < XS.length := by omega
                  have hlty : (k : Int) < YS.length := by have := HXS.out.2.2.1; omega
                  obtain ⟨xv, hxv⟩ : ∃ v, XS[k]? = some v := ⟨XS[k], by simp [hlt]⟩
                  obtain ⟨yv, hyv⟩ : ∃ v, YS[k]? = some v := ⟨YS[k]'(by have := HXS.out.2.2.1; omega), by simp⟩
                  have hzk : (XS.zip YS)[k]? = some (xv, yv) := by rw [List.getElem?_zip_eq_some]; exact ⟨hxv, hyv⟩
                  obtain ⟨g, og, rfl, hcell⟩ := (S.row 0 rfl).sees'.three hxv
                  obtain ⟨c0, c1, c2⟩ := hcell k xv hxv
                  obtain ⟨g2, og2, rfl, -⟩ := (S.row 1 rfl).sees'.three hyv
                  have hk0 : (0 : Int) ≤ k := by omega
                  have hwr : IntKind.i64.wrap (d + 1) = d + 1 := IntWalk.i64_in _ (by omega)
                  obtain ⟨q, hq⟩ : ∃ q, H.sameF f xv yv = q := ⟨_, rfl⟩
                  have HK := Lib.hid (And.intro hzk (And.intro hlt (And.intro hall (And.intro hxv hyv))))
                  have HK1 := Lib.hid (And.intro hk hkl)
                  clear hcell hzk hlt hall hxv hyv hk hkl
                  obtain ⟨xb, hxb⟩ : ∃ gx_, (wr.heap.size) = gx_ := ⟨_, rfl⟩
                  replace S := (S.alloc (.cells #[.int .i64 xv.kind, .int .i64 xv.n, .string xv.s] 29))
                  simp only [World.size_alloc, hxb] at S
                  replace S : Sep w (boxV xb xv :: valsR (.slice (some ⟨g, og, none⟩) XS.length xc) XS :: valsR (.slice (some ⟨g2, og2, none⟩) YS.length yc) YS :: boxE (b + 1 + 1) :: boxV (b + 1) y :: boxV b x :: Rs) _ := S
                  match q, hq with
                  | some true, hq =>
                    have HQ := Lib.hid hq
                    clear hq
                    obtain ⟨baseA, hbaseA⟩ : ∃ base, base = boxV xb xv :: valsR (.slice (some ⟨g, og, none⟩) XS.length xc) XS :: valsR (.slice (some ⟨g2, og2, none⟩) YS.length yc) YS :: boxE (b + 1 + 1) :: boxV (b + 1) y :: boxV b x :: Rs := ⟨_, rfl⟩
                    have HbaseA := Lib.hid hbaseA
                    have KbaseA : Hid (∀ W (Q : List Res), Sep w (Q ++ baseA) W → W.cell? ⟨xb, 0, none⟩ = some (.int .i64 xv.kind) ∧ W.cell? ⟨xb, 1, none⟩ = some (.int .i64 xv.n) ∧ W.cell? ⟨xb, 2, none⟩ = some (.string xv.s) ∧ W.cell? ⟨g2, og2 + k * 3, none⟩ = some (.int .i64 yv.kind) ∧ W.cell? ⟨g2, og2 + k * 3 + 1, none⟩ = some (.int .i64 yv.n) ∧ W.cell? ⟨g2, og2 + k * 3 + 2, none⟩ = some (.string yv.s)) := Lib.hid fun W Q T => by
                      rw [hbaseA] at T
                      have i0 := T.box (b := xb) (o := objV xv) (Q.length + 0) (by rw [List.getElem?_append_right (by omega), Nat.add_sub_cancel_left]; rfl)
                      exact ⟨cellAt i0 0 rfl, cellAt i0 1 rfl, cellAt i0 2 rfl, sepThree T (Q.length + 2) (by rw [List.getElem?_append_right (by omega), Nat.add_sub_cancel_left]; rfl) HK.out.2.2.2.2⟩
                    have KS : Hid (∀ W (Q : List Res), Sep w (Q ++ baseA) W → Calls Tryz.prog 64 #[.pointer (some ⟨h, 0, none⟩), .agg #[.int .i64 xv.kind, .int .i64 xv.n, .string xv.s], .agg #[.int .i64 yv.kind, .int .i64 yv.n, .string yv.s], .int .i64 (d + 1)] W fun e W' => e = .returned (.tuple #[.bool true, .agg #[.string ⟨#[]⟩, .int .i64 0, .int .i64 0, .string ⟨#[]⟩, .bool false]]) ∧ Sep w (Q ++ baseA) W') := Lib.hid fun W Q T => by
                      rw [HbaseA.out] at T ⊢
                      exact IHT.out T (Q.length + (i + 6)) (by rw [List.getElem?_append_right (by omega), Nat.add_sub_cancel_left]; simpa using HV.out.1) xv yv true HQ.out
                    replace S : Sep w (baseA) (wr.alloc (.cells #[.int .i64 xv.kind, .int .i64 xv.n, .string xv.s] 29)) := by rw [hbaseA]; exact S
                    replace S := Lib.hid S
                    clear hbaseA
                    go_upto_region 26 with fail
                    try simp only [hxb]
                    obtain ⟨Wd26, hW⟩ : ∃ gx_, ((wr.alloc (.cells #[.int .i64 xv.kind, .int .i64 xv.n, .string xv.s] 29))) = gx_ := ⟨_, rfl⟩
                    rw [hW] at S ⊢
                    clear hW hxb
                    clear c0 c1 c2
                    go_cut [21, 22] from 123 to 138 (fun s21 s22 wx => ∃ qx, s21 = .bool true ∧ s22 = .pointer (some ⟨qx, 0, none⟩) ∧ Sep w (boxE qx :: baseA) wx)
                    case first =>
                      have T0 : Sep w ([] ++ baseA) _ := S.out.drew
                      clear S
                      as_aux_lemma =>
                        refine wp_region_held_drew (S := fun W => W.cell? ⟨xb, 0, none⟩ = some (.int .i64 xv.kind) ∧ W.cell? ⟨xb, 1, none⟩ = some (.int .i64 xv.n) ∧ W.cell? ⟨xb, 2, none⟩ = some (.string xv.s) ∧ W.cell? ⟨g2, og2 + k * 3, none⟩ = some (.int .i64 yv.kind) ∧ W.cell? ⟨g2, og2 + k * 3 + 1, none⟩ = some (.int .i64 yv.n) ∧ W.cell? ⟨g2, og2 + k * 3 + 2, none⟩ = some (.string yv.s)) (by kernel_rfl) (KbaseA.out _ [] T0) (fun hH => ?_)
                        refine takeT 0 hH (hy := .inl ⟨by rfl, by (intro w hSw; try obtain ⟨u0, u1, u2, v0, v1, v2⟩ := hSw); (go_simp; try rfl)⟩) (h := ?_)
                        simp only [pu]
                        refine takeT 1 hH (hy := .inl ⟨by rfl, by (intro w hSw; try obtain ⟨u0, u1, u2, v0, v1, v2⟩ := hSw); (go_simp; try rfl)⟩) (h := ?_)
                        simp only [pu]
                        refine takeT 2 hH (hy := .inl ⟨by rfl, by (intro w hSw; try obtain ⟨u0, u1, u2, v0, v1, v2⟩ := hSw); (go_simp; try rfl)⟩) (h := ?_)
                        simp only [pu]
                        refine takeT 3 hH (hy := .inl ⟨by rfl, by (intro w hSw; try obtain ⟨u0, u1, u2, v0, v1, v2⟩ := hSw); (go_simp; try rfl)⟩) (h := ?_)
                        simp only [pu]
                        refine takeT 4 hH (hy := .inl ⟨by rfl, by (intro w hSw; try obtain ⟨u0, u1, u2, v0, v1, v2⟩ := hSw); (go_simp; try rfl)⟩) (h := ?_)
                        simp only [pu]
                        refine takeT 5 hH (hy := .inl ⟨by rfl, by (intro w hSw; try obtain ⟨u0, u1, u2, v0, v1, v2⟩ := hSw); (go_simp; try rfl)⟩) (h := ?_)
                        simp only [pu]
                        refine takeT 6 hH (hy := .inl ⟨by rfl, by (intro w hSw; try obtain ⟨u0, u1, u2, v0, v1, v2⟩ := hSw); (go_simp; try rfl)⟩) (h := ?_)
                        simp only [pu]
                        refine takeT 7 hH (hy := .inl ⟨by rfl, by (intro w hSw; try obtain ⟨u0, u1, u2, v0, v1, v2⟩ := hSw); (go_simp; try rfl)⟩) (h := ?_)
                        simp only [pu]
                        refine readyT [8, 12] ?_
                        refine consT (fun K hK => ?_) (consT (fun K hK => ?_) AllReadyH.nil)
                        · go_simp
                          go_wp2_with (go_at_call 64; refine (KS.out _ [] T0).mono ?_; rintro e w1 ⟨rfl, T1⟩)
                          clear hH
                          refine hK.out _ _ (KbaseA.out _ [] T1) (fun hH => ?_)
                          clear hK K
                          refine takeT 9 hH (hy := .inl ⟨by rfl, by (intro w hSw; try obtain ⟨u0, u1, u2, v0, v1, v2⟩ := hSw); (go_simp; try rfl)⟩) (h := ?_)
                          simp only [pu]
                          refine takeT 10 hH (hy := .inl ⟨by rfl, by (intro w hSw; try obtain ⟨u0, u1, u2, v0, v1, v2⟩ := hSw); (go_simp; try rfl)⟩) (h := ?_)
                          simp only [pu]
                          refine takeT 11 hH (hy := .inl ⟨by rfl, by (intro w hSw; try obtain ⟨u0, u1, u2, v0, v1, v2⟩ := hSw); (go_simp; try rfl)⟩) (h := ?_)
                          simp only [pu]
                          refine readyT [12] ?_
                          refine consT (fun K hK => ?_) AllReadyH.nil
                          go_simp
                          have T2 : Sep w ([boxE _] ++ baseA) _ := Sep.alloc T1 (.cells #[.string ⟨#[]⟩, .int .i64 0, .int .i64 0, .string ⟨#[]⟩, .bool false] 38)
                          try simp only [size_drew, World.size_alloc] at T2
                          clear hH
                          refine hK.out _ _ (KbaseA.out _ [_] T2) (fun hH => ?_)
                          clear hK K
                          refine takeT 13 hH (hy := .inl ⟨by rfl, by (intro w hSw; try obtain ⟨u0, u1, u2, v0, v1, v2⟩ := hSw); (go_simp; try rfl)⟩) (h := ?_)
                          simp only [pu]
                          refine readyT [14] ?_
                          refine consT (fun K hK => ?_) AllReadyH.nil
                          have hz := T2.box 0 rfl
                          have z0 := cellAt hz 0 (v := .string ⟨#[]⟩) rfl
                          have z1 := cellAt hz 1 (v := .int .i64 0) rfl
                          have z2 := cellAt hz 2 (v := .int .i64 0) rfl
                          have z3 := cellAt hz 3 (v := .string ⟨#[]⟩) rfl
                          have z4 := cellAt hz 4 (v := .bool false) rfl
                          have z5 := frozenAt hz 0
                          have z6 := frozenAt hz 1
                          have z7 := frozenAt hz 2
                          have z8 := frozenAt hz 3
                          have z9 := frozenAt hz 4
                          try simp only [World.cell?_drew, World.frozen?_drew] at z0 z1 z2 z3 z4 z5 z6 z7 z8 z9
                          go_simp
                          clear hz z0 z1 z2 z3 z4 z5 z6 z7 z8 z9
                          clear hH
                          first | (have T3 : Sep w ([boxE _] ++ baseA) _ := (Sep.alloc T1 (.cells #[.string ⟨#[]⟩, .int .i64 0, .int .i64 0, .string ⟨#[]⟩, .bool false] 38)); (try simp only [size_drew, World.size_alloc] at T3); refine hK.out _ _ (KbaseA.out _ [_] T3) (fun hH => ?_)) | (have T3 : Sep w ([boxE _] ++ baseA) _ := (Sep.setBox (cs := #[.string ⟨#[]⟩, .int .i64 0, .int .i64 0, .string ⟨#[]⟩, .bool false]) (t := 38) (Sep.setBox (cs := #[.string ⟨#[]⟩, .int .i64 0, .int .i64 0, .string ⟨#[]⟩, .bool false]) (t := 38) (Sep.setBox (cs := #[.string ⟨#[]⟩, .int .i64 0, .int .i64 0, .string ⟨#[]⟩, .bool false]) (t := 38) (Sep.setBox (cs := #[.string ⟨#[]⟩, .int .i64 0, .int .i64 0, .string ⟨#[]⟩, .bool false]) (t := 38) (Sep.setBox (cs := #[.string ⟨#[]⟩, .int .i64 0, .int .i64 0, .string ⟨#[]⟩, .bool false]) (t := 38) T2 0 rfl 0 (.string ⟨#[]⟩)) 0 rfl 1 (.int .i64 0)) 0 rfl 2 (.int .i64 0)) 0 rfl 3 (.string ⟨#[]⟩)) 0 rfl 4 (.bool false)); (try simp only [size_drew, World.size_alloc] at T3); refine hK.out _ _ (KbaseA.out _ [_] T3) (fun hH => ?_))
                          clear hK K
                          refine wpAnyH_done (by kernel_rfl) ?_ _
                          as_aux_lemma =>
                            go_wp2_with fail
                            go_meet
                            exact ⟨_, rfl, rfl, T3⟩
                        · go_simp
                          have T4 : Sep w ([boxE _] ++ baseA) _ := Sep.alloc T0 (.cells #[.string ⟨#[]⟩, .int .i64 0, .int .i64 0, .string ⟨#[]⟩, .bool false] 38)
                          try simp only [size_drew, World.size_alloc] at T4
                          clear hH
                          refine hK.out _ _ (KbaseA.out _ [_] T4) (fun hH => ?_)
                          clear hK K
                          refine readyT [8] ?_
                          refine consT (fun K hK => ?_) AllReadyH.nil
                          go_simp
                          go_wp2_with (go_at_call 64; refine (KS.out _ [_] T4).mono ?_; rintro e w5 ⟨rfl, T5⟩)
                          clear hH
                          refine hK.out _ _ (KbaseA.out _ [_] T5) (fun hH => ?_)
                          clear hK K
                          refine takeT 9 hH (hy := .inl ⟨by rfl, by (intro w hSw; try obtain ⟨u0, u1, u2, v0, v1, v2⟩ := hSw); (go_simp; try rfl)⟩) (h := ?_)
                          simp only [pu]
                          refine takeT 10 hH (hy := .inl ⟨by rfl, by (intro w hSw; try obtain ⟨u0, u1, u2, v0, v1, v2⟩ := hSw); (go_simp; try rfl)⟩) (h := ?_)
                          simp only [pu]
                          refine takeT 11 hH (hy := .inl ⟨by rfl, by (intro w hSw; try obtain ⟨u0, u1, u2, v0, v1, v2⟩ := hSw); (go_simp; try rfl)⟩) (h := ?_)
                          simp only [pu]
                          refine takeT 13 hH (hy := .inl ⟨by rfl, by (intro w hSw; try obtain ⟨u0, u1, u2, v0, v1, v2⟩ := hSw); (go_simp; try rfl)⟩) (h := ?_)
                          simp only [pu]
                          refine readyT [14] ?_
                          refine consT (fun K hK => ?_) AllReadyH.nil
                          have hz := T5.box 0 rfl
                          have z0 := cellAt hz 0 (v := .string ⟨#[]⟩) rfl
                          have z1 := cellAt hz 1 (v := .int .i64 0) rfl
                          have z2 := cellAt hz 2 (v := .int .i64 0) rfl
                          have z3 := cellAt hz 3 (v := .string ⟨#[]⟩) rfl
                          have z4 := cellAt hz 4 (v := .bool false) rfl
                          have z5 := frozenAt hz 0
                          have z6 := frozenAt hz 1
                          have z7 := frozenAt hz 2
                          have z8 := frozenAt hz 3
                          have z9 := frozenAt hz 4
                          try simp only [World.cell?_drew, World.frozen?_drew] at z0 z1 z2 z3 z4 z5 z6 z7 z8 z9
                          go_simp
                          clear hz z0 z1 z2 z3 z4 z5 z6 z7 z8 z9
                          clear hH
                          have T6 : Sep w ([boxE _] ++ baseA) _ := (Sep.setBox (cs := #[.string ⟨#[]⟩, .int .i64 0, .int .i64 0, .string ⟨#[]⟩, .bool false]) (t := 38) (Sep.setBox (cs := #[.string ⟨#[]⟩, .int .i64 0, .int .i64 0, .string ⟨#[]⟩, .bool false]) (t := 38) (Sep.setBox (cs := #[.string ⟨#[]⟩, .int .i64 0, .int .i64 0, .string ⟨#[]⟩, .bool false]) (t := 38) (Sep.setBox (cs := #[.string ⟨#[]⟩, .int .i64 0, .int .i64 0, .string ⟨#[]⟩, .bool false]) (t := 38) (Sep.setBox (cs := #[.string ⟨#[]⟩, .int .i64 0, .int .i64 0, .string ⟨#[]⟩, .bool false]) (t := 38) T5 0 rfl 0 (.string ⟨#[]⟩)) 0 rfl 1 (.int .i64 0)) 0 rfl 2 (.int .i64 0)) 0 rfl 3 (.string ⟨#[]⟩)) 0 rfl 4 (.bool false))
                          try simp only [size_drew, World.size_alloc] at T6
                          refine hK.out _ _ (KbaseA.out _ [_] T6) (fun hH => ?_)
                          clear hK K
                          refine wpAnyH_done (by kernel_rfl) ?_ _
                          as_aux_lemma =>
                            go_wp2_with fail
                            go_meet
                            exact ⟨_, rfl, rfl, T6⟩
                    case rest =>
                      obtain ⟨eb, rfl, rfl, S⟩ := hcut
                      rw [HbaseA.out] at S
                      clear KS KbaseA HbaseA
                      replace S : Sep w (boxE eb :: boxV xb xv :: valsR (.slice (some ⟨g, og, none⟩) XS.length xc) XS :: valsR (.slice (some ⟨g2, og2, none⟩) YS.length yc) YS :: boxE (b + 1 + 1) :: boxV (b + 1) y :: boxV b x :: Rs) _ := S
                      have S9 := Lib.hid (S.tail.tail)
                      clear S
                      go_wp2
                      refine ⟨⟨k + 1, by have := HK.out.2.1; omega, by go_num, take_snoc HK.out.1 HK.out.2.2.1 HQ.out, S9.out⟩, by have := HK.out.2.1; simp [intOf]; omega⟩
                  | some false, hq =>
                    have HQ := Lib.hid hq
                    clear hq
                    obtain ⟨baseA, hbaseA⟩ : ∃ base, base = boxV xb xv :: valsR (.slice (some ⟨g, og, none⟩) XS.length xc) XS :: valsR (.slice (some ⟨g2, og2, none⟩) YS.length yc) YS :: boxE (b + 1 + 1) :: boxV (b + 1) y :: boxV b x :: Rs := ⟨_, rfl⟩
                    have HbaseA := Lib.hid hbaseA
                    have KbaseA : Hid (∀ W (Q : List Res), Sep w (Q ++ baseA) W → W.cell? ⟨xb, 0, none⟩ = some (.int .i64 xv.kind) ∧ W.cell? ⟨xb, 1, none⟩ = some (.int .i64 xv.n) ∧ W.cell? ⟨xb, 2, none⟩ = some (.string xv.s) ∧ W.cell? ⟨g2, og2 + k * 3, none⟩ = some (.int .i64 yv.kind) ∧ W.cell? ⟨g2, og2 + k * 3 + 1, none⟩ = some (.int .i64 yv.n) ∧ W.cell? ⟨g2, og2 + k * 3 + 2, none⟩ = some (.string yv.s)) := Lib.hid fun W Q T => by
                      rw [hbaseA] at T
                      have i0 := T.box (b := xb) (o := objV xv) (Q.length + 0) (by rw [List.getElem?_append_right (by omega), Nat.add_sub_cancel_left]; rfl)
                      exact ⟨cellAt i0 0 rfl, cellAt i0 1 rfl, cellAt i0 2 rfl, sepThree T (Q.length + 2) (by rw [List.getElem?_append_right (by omega), Nat.add_sub_cancel_left]; rfl) HK.out.2.2.2.2⟩
                    have KS : Hid (∀ W (Q : List Res), Sep w (Q ++ baseA) W → Calls Tryz.prog 64 #[.pointer (some ⟨h, 0, none⟩), .agg #[.int .i64 xv.kind, .int .i64 xv.n, .string xv.s], .agg #[.int .i64 yv.kind, .int .i64 yv.n, .string yv.s], .int .i64 (d + 1)] W fun e W' => e = .returned (.tuple #[.bool false, .agg #[.string ⟨#[]⟩, .int .i64 0, .int .i64 0, .string ⟨#[]⟩, .bool false]]) ∧ Sep w (Q ++ baseA) W') := Lib.hid fun W Q T => by
                      rw [HbaseA.out] at T ⊢
                      exact IHT.out T (Q.length + (i + 6)) (by rw [List.getElem?_append_right (by omega), Nat.add_sub_cancel_left]; simpa using HV.out.1) xv yv false HQ.out
                    replace S : Sep w (baseA) (wr.alloc (.cells #[.int .i64 xv.kind, .int .i64 xv.n, .string xv.s] 29)) := by rw [hbaseA]; exact S
                    replace S := Lib.hid S
                    clear hbaseA
                    go_upto_region 26 with fail
                    try simp only [hxb]
                    obtain ⟨Wd26, hW⟩ : ∃ gx_, ((wr.alloc (.cells #[.int .i64 xv.kind, .int .i64 xv.n, .string xv.s] 29))) = gx_ := ⟨_, rfl⟩
                    rw [hW] at S ⊢
                    clear hW hxb
                    clear c0 c1 c2
                    go_cut [21, 22] from 123 to 138 (fun s21 s22 wx => ∃ qx, s21 = .bool false ∧ s22 = .pointer (some ⟨qx, 0, none⟩) ∧ Sep w (boxE qx :: baseA) wx)
                    case first =>
                      have T0 : Sep w ([] ++ baseA) _ := S.out.drew
                      clear S
                      as_aux_lemma =>
                        refine wp_region_held_drew (S := fun W => W.cell? ⟨xb, 0, none⟩ = some (.int .i64 xv.kind) ∧ W.cell? ⟨xb, 1, none⟩ = some (.int .i64 xv.n) ∧ W.cell? ⟨xb, 2, none⟩ = some (.string xv.s) ∧ W.cell? ⟨g2, og2 + k * 3, none⟩ = some (.int .i64 yv.kind) ∧ W.cell? ⟨g2, og2 + k * 3 + 1, none⟩ = some (.int .i64 yv.n) ∧ W.cell? ⟨g2, og2 + k * 3 + 2, none⟩ = some (.string yv.s)) (by kernel_rfl) (KbaseA.out _ [] T0) (fun hH => ?_)
                        refine takeT 0 hH (hy := .inl ⟨by rfl, by (intro w hSw; try obtain ⟨u0, u1, u2, v0, v1, v2⟩ := hSw); (go_simp; try rfl)⟩) (h := ?_)
                        simp only [pu]
                        refine takeT 1 hH (hy := .inl ⟨by rfl, by (intro w hSw; try obtain ⟨u0, u1, u2, v0, v1, v2⟩ := hSw); (go_simp; try rfl)⟩) (h := ?_)
                        simp only [pu]
                        refine takeT 2 hH (hy := .inl ⟨by rfl, by (intro w hSw; try obtain ⟨u0, u1, u2, v0, v1, v2⟩ := hSw); (go_simp; try rfl)⟩) (h := ?_)
                        simp only [pu]
                        refine takeT 3 hH (hy := .inl ⟨by rfl, by (intro w hSw; try obtain ⟨u0, u1, u2, v0, v1, v2⟩ := hSw); (go_simp; try rfl)⟩) (h := ?_)
                        simp only [pu]
                        refine takeT 4 hH (hy := .inl ⟨by rfl, by (intro w hSw; try obtain ⟨u0, u1, u2, v0, v1, v2⟩ := hSw); (go_simp; try rfl)⟩) (h := ?_)
                        simp only [pu]
                        refine takeT 5 hH (hy := .inl ⟨by rfl, by (intro w hSw; try obtain ⟨u0, u1, u2, v0, v1, v2⟩ := hSw); (go_simp; try rfl)⟩) (h := ?_)
                        simp only [pu]
                        refine takeT 6 hH (hy := .inl ⟨by rfl, by (intro w hSw; try obtain ⟨u0, u1, u2, v0, v1, v2⟩ := hSw); (go_simp; try rfl)⟩) (h := ?_)
                        simp only [pu]
                        refine takeT 7 hH (hy := .inl ⟨by rfl, by (intro w hSw; try obtain ⟨u0, u1, u2, v0, v1, v2⟩ := hSw); (go_simp; try rfl)⟩) (h := ?_)
                        simp only [pu]
                        refine readyT [8, 12] ?_
                        refine consT (fun K hK => ?_) (consT (fun K hK => ?_) AllReadyH.nil)
                        · go_simp
                          go_wp2_with (go_at_call 64; refine (KS.out _ [] T0).mono ?_; rintro e w1 ⟨rfl, T1⟩)
                          clear hH
                          refine hK.out _ _ (KbaseA.out _ [] T1) (fun hH => ?_)
                          clear hK K
                          refine takeT 9 hH (hy := .inl ⟨by rfl, by (intro w hSw; try obtain ⟨u0, u1, u2, v0, v1, v2⟩ := hSw); (go_simp; try rfl)⟩) (h := ?_)
                          simp only [pu]
                          refine takeT 10 hH (hy := .inl ⟨by rfl, by (intro w hSw; try obtain ⟨u0, u1, u2, v0, v1, v2⟩ := hSw); (go_simp; try rfl)⟩) (h := ?_)
                          simp only [pu]
                          refine takeT 11 hH (hy := .inl ⟨by rfl, by (intro w hSw; try obtain ⟨u0, u1, u2, v0, v1, v2⟩ := hSw); (go_simp; try rfl)⟩) (h := ?_)
                          simp only [pu]
                          refine readyT [12] ?_
                          refine consT (fun K hK => ?_) AllReadyH.nil
                          go_simp
                          have T2 : Sep w ([boxE _] ++ baseA) _ := Sep.alloc T1 (.cells #[.string ⟨#[]⟩, .int .i64 0, .int .i64 0, .string ⟨#[]⟩, .bool false] 38)
                          try simp only [size_drew, World.size_alloc] at T2
                          clear hH
                          refine hK.out _ _ (KbaseA.out _ [_] T2) (fun hH => ?_)
                          clear hK K
                          refine takeT 13 hH (hy := .inl ⟨by rfl, by (intro w hSw; try obtain ⟨u0, u1, u2, v0, v1, v2⟩ := hSw); (go_simp; try rfl)⟩) (h := ?_)
                          simp only [pu]
                          refine readyT [14] ?_
                          refine consT (fun K hK => ?_) AllReadyH.nil
                          have hz := T2.box 0 rfl
                          have z0 := cellAt hz 0 (v := .string ⟨#[]⟩) rfl
                          have z1 := cellAt hz 1 (v := .int .i64 0) rfl
                          have z2 := cellAt hz 2 (v := .int .i64 0) rfl
                          have z3 := cellAt hz 3 (v := .string ⟨#[]⟩) rfl
                          have z4 := cellAt hz 4 (v := .bool false) rfl
                          have z5 := frozenAt hz 0
                          have z6 := frozenAt hz 1
                          have z7 := frozenAt hz 2
                          have z8 := frozenAt hz 3
                          have z9 := frozenAt hz 4
                          try simp only [World.cell?_drew, World.frozen?_drew] at z0 z1 z2 z3 z4 z5 z6 z7 z8 z9
                          go_simp
                          clear hz z0 z1 z2 z3 z4 z5 z6 z7 z8 z9
                          clear hH
                          first | (have T3 : Sep w ([boxE _] ++ baseA) _ := (Sep.alloc T1 (.cells #[.string ⟨#[]⟩, .int .i64 0, .int .i64 0, .string ⟨#[]⟩, .bool false] 38)); (try simp only [size_drew, World.size_alloc] at T3); refine hK.out _ _ (KbaseA.out _ [_] T3) (fun hH => ?_)) | (have T3 : Sep w ([boxE _] ++ baseA) _ := (Sep.setBox (cs := #[.string ⟨#[]⟩, .int .i64 0, .int .i64 0, .string ⟨#[]⟩, .bool false]) (t := 38) (Sep.setBox (cs := #[.string ⟨#[]⟩, .int .i64 0, .int .i64 0, .string ⟨#[]⟩, .bool false]) (t := 38) (Sep.setBox (cs := #[.string ⟨#[]⟩, .int .i64 0, .int .i64 0, .string ⟨#[]⟩, .bool false]) (t := 38) (Sep.setBox (cs := #[.string ⟨#[]⟩, .int .i64 0, .int .i64 0, .string ⟨#[]⟩, .bool false]) (t := 38) (Sep.setBox (cs := #[.string ⟨#[]⟩, .int .i64 0, .int .i64 0, .string ⟨#[]⟩, .bool false]) (t := 38) T2 0 rfl 0 (.string ⟨#[]⟩)) 0 rfl 1 (.int .i64 0)) 0 rfl 2 (.int .i64 0)) 0 rfl 3 (.string ⟨#[]⟩)) 0 rfl 4 (.bool false)); (try simp only [size_drew, World.size_alloc] at T3); refine hK.out _ _ (KbaseA.out _ [_] T3) (fun hH => ?_))
                          clear hK K
                          refine wpAnyH_done (by kernel_rfl) ?_ _
                          as_aux_lemma =>
                            go_wp2_with fail
                            go_meet
                            exact ⟨_, rfl, rfl, T3⟩
                        · go_simp
                          have T4 : Sep w ([boxE _] ++ baseA) _ := Sep.alloc T0 (.cells #[.string ⟨#[]⟩, .int .i64 0, .int .i64 0, .string ⟨#[]⟩, .bool false] 38)
                          try simp only [size_drew, World.size_alloc] at T4
                          clear hH
                          refine hK.out _ _ (KbaseA.out _ [_] T4) (fun hH => ?_)
                          clear hK K
                          refine readyT [8] ?_
                          refine consT (fun K hK => ?_) AllReadyH.nil
                          go_simp
                          go_wp2_with (go_at_call 64; refine (KS.out _ [_] T4).mono ?_; rintro e w5 ⟨rfl, T5⟩)
                          clear hH
                          refine hK.out _ _ (KbaseA.out _ [_] T5) (fun hH => ?_)
                          clear hK K
                          refine takeT 9 hH (hy := .inl ⟨by rfl, by (intro w hSw; try obtain ⟨u0, u1, u2, v0, v1, v2⟩ := hSw); (go_simp; try rfl)⟩) (h := ?_)
                          simp only [pu]
                          refine takeT 10 hH (hy := .inl ⟨by rfl, by (intro w hSw; try obtain ⟨u0, u1, u2, v0, v1, v2⟩ := hSw); (go_simp; try rfl)⟩) (h := ?_)
                          simp only [pu]
                          refine takeT 11 hH (hy := .inl ⟨by rfl, by (intro w hSw; try obtain ⟨u0, u1, u2, v0, v1, v2⟩ := hSw); (go_simp; try rfl)⟩) (h := ?_)
                          simp only [pu]
                          refine takeT 13 hH (hy := .inl ⟨by rfl, by (intro w hSw; try obtain ⟨u0, u1, u2, v0, v1, v2⟩ := hSw); (go_simp; try rfl)⟩) (h := ?_)
                          simp only [pu]
                          refine readyT [14] ?_
                          refine consT (fun K hK => ?_) AllReadyH.nil
                          have hz := T5.box 0 rfl
                          have z0 := cellAt hz 0 (v := .string ⟨#[]⟩) rfl
                          have z1 := cellAt hz 1 (v := .int .i64 0) rfl
                          have z2 := cellAt hz 2 (v := .int .i64 0) rfl
                          have z3 := cellAt hz 3 (v := .string ⟨#[]⟩) rfl
                          have z4 := cellAt hz 4 (v := .bool false) rfl
                          have z5 := frozenAt hz 0
                          have z6 := frozenAt hz 1
                          have z7 := frozenAt hz 2
                          have z8 := frozenAt hz 3
                          have z9 := frozenAt hz 4
                          try simp only [World.cell?_drew, World.frozen?_drew] at z0 z1 z2 z3 z4 z5 z6 z7 z8 z9
                          go_simp
                          clear hz z0 z1 z2 z3 z4 z5 z6 z7 z8 z9
                          clear hH
                          have T6 : Sep w ([boxE _] ++ baseA) _ := (Sep.setBox (cs := #[.string ⟨#[]⟩, .int .i64 0, .int .i64 0, .string ⟨#[]⟩, .bool false]) (t := 38) (Sep.setBox (cs := #[.string ⟨#[]⟩, .int .i64 0, .int .i64 0, .string ⟨#[]⟩, .bool false]) (t := 38) (Sep.setBox (cs := #[.string ⟨#[]⟩, .int .i64 0, .int .i64 0, .string ⟨#[]⟩, .bool false]) (t := 38) (Sep.setBox (cs := #[.string ⟨#[]⟩, .int .i64 0, .int .i64 0, .string ⟨#[]⟩, .bool false]) (t := 38) (Sep.setBox (cs := #[.string ⟨#[]⟩, .int .i64 0, .int .i64 0, .string ⟨#[]⟩, .bool false]) (t := 38) T5 0 rfl 0 (.string ⟨#[]⟩)) 0 rfl 1 (.int .i64 0)) 0 rfl 2 (.int .i64 0)) 0 rfl 3 (.string ⟨#[]⟩)) 0 rfl 4 (.bool false))
                          try simp only [size_drew, World.size_alloc] at T6
                          refine hK.out _ _ (KbaseA.out _ [_] T6) (fun hH => ?_)
                          clear hK K
                          refine wpAnyH_done (by kernel_rfl) ?_ _
                          as_aux_lemma =>
                            go_wp2_with fail
                            go_meet
                            exact ⟨_, rfl, rfl, T6⟩
                    case rest =>
                      obtain ⟨eb, rfl, rfl, S⟩ := hcut
                      rw [HbaseA.out] at S
                      clear KS KbaseA HbaseA
                      replace S : Sep w (boxE eb :: boxV xb xv :: valsR (.slice (some ⟨g, og, none⟩) XS.length xc) XS :: valsR (.slice (some ⟨g2, og2, none⟩) YS.length yc) YS :: boxE (b + 1 + 1) :: boxV (b + 1) y :: boxV b x :: Rs) _ := S
                      obtain ⟨e0, e1, e2, e3, e4, -⟩ := cells5 (S.box (b := eb) (o := objE) 0 rfl)
                      have HM : Hid (H.sameF (f + 1) x y = some false) := Lib.hid (by rw [PK.out, allM_stop HK.out.1 HK.out.2.2.1 (by rw [HQ.out]; simp), HQ.out])
                      have hz := S.box (b := b + 1 + 1) 4 rfl
                      have z0 := cellAt hz 0 (v := .string ⟨#[]⟩) rfl
                      have z1 := cellAt hz 1 (v := .int .i64 0) rfl
                      have z2 := cellAt hz 2 (v := .int .i64 0) rfl
                      have z3 := cellAt hz 3 (v := .string ⟨#[]⟩) rfl
                      have z4 := cellAt hz 4 (v := .bool false) rfl
                      have z5 := frozenAt hz 0
                      have z6 := frozenAt hz 1
                      have z7 := frozenAt hz 2
                      have z8 := frozenAt hz 3
                      have z9 := frozenAt hz 4
                      have S9 := Lib.hid (S.toAny (q := b + 1 + 1) 4 rfl)
                      have FR : Hid (∀ W', Sep w (boxE eb :: boxV xb xv :: valsR (.slice (some ⟨g, og, none⟩) XS.length xc) XS :: valsR (.slice (some ⟨g2, og2, none⟩) YS.length yc) YS :: anyR (b + 1 + 1) :: boxV (b + 1) y :: boxV b x :: Rs) W' → Sep w Rs W') := Lib.hid fun W' T => T.tail.tail.tail.tail.tail.tail.tail
                      clear S hz
                      go_wp2
                      go_region
                      go_wp2
                      refine bodyPost_ret (v := .tuple #[.bool false, excZ]) (by simp [results, Tryz.results64, go_sem, z0, z1, z2, z3, z4]) rfl ⟨by rw [HM.out]; rfl, FR.out _ (Sep.drew ?_)⟩
                      iterate 5 refine Sep.poke (q := b + 1 + 1) ?_ 4 rfl _ _
                      exact S9.out
                  | none, hq =>
                    have HQ := Lib.hid hq
                    clear hq
                    obtain ⟨baseA, hbaseA⟩ : ∃ base, base = boxV xb xv :: valsR (.slice (some ⟨g, og, none⟩) XS.length xc) XS :: valsR (.slice (some ⟨g2, og2, none⟩) YS.length yc) YS :: boxE (b + 1 + 1) :: boxV (b + 1) y :: boxV b x :: Rs := ⟨_, rfl⟩
                    have HbaseA := Lib.hid hbaseA
                    have KbaseA : Hid (∀ W (Q : List Res), Sep w (Q ++ baseA) W → W.cell? ⟨xb, 0, none⟩ = some (.int .i64 xv.kind) ∧ W.cell? ⟨xb, 1, none⟩ = some (.int .i64 xv.n) ∧ W.cell? ⟨xb, 2, none⟩ = some (.string xv.s) ∧ W.cell? ⟨g2, og2 + k * 3, none⟩ = some (.int .i64 yv.kind) ∧ W.cell? ⟨g2, og2 + k * 3 + 1, none⟩ = some (.int .i64 yv.n) ∧ W.cell? ⟨g2, og2 + k * 3 + 2, none⟩ = some (.string yv.s)) := Lib.hid fun W Q T => by
                      rw [hbaseA] at T
                      have i0 := T.box (b := xb) (o := objV xv) (Q.length + 0) (by rw [List.getElem?_append_right (by omega), Nat.add_sub_cancel_left]; rfl)
                      exact ⟨cellAt i0 0 rfl, cellAt i0 1 rfl, cellAt i0 2 rfl, sepThree T (Q.length + 2) (by rw [List.getElem?_append_right (by omega), Nat.add_sub_cancel_left]; rfl) HK.out.2.2.2.2⟩
                    have KS : Hid (∀ W (Q : List Res), Sep w (Q ++ baseA) W → Calls Tryz.prog 64 #[.pointer (some ⟨h, 0, none⟩), .agg #[.int .i64 xv.kind, .int .i64 xv.n, .string xv.s], .agg #[.int .i64 yv.kind, .int .i64 yv.n, .string yv.s], .int .i64 (d + 1)] W fun e W' => e = .returned (.tuple #[.bool false, .agg #[.string ⟨#[82, 101, 99, 117, 114, 115, 105, 111, 110, 69, 114, 114, 111, 114]⟩, .int .i64 0, .int .i64 0, .string ⟨#[]⟩, .bool false]]) ∧ Sep w (Q ++ baseA) W') := Lib.hid fun W Q T => by
                      rw [HbaseA.out] at T ⊢
                      exact IHN.out T (Q.length + (i + 6)) (by rw [List.getElem?_append_right (by omega), Nat.add_sub_cancel_left]; simpa using HV.out.1) xv yv HQ.out
                    replace S : Sep w (baseA) (wr.alloc (.cells #[.int .i64 xv.kind, .int .i64 xv.n, .string xv.s] 29)) := by rw [hbaseA]; exact S
                    replace S := Lib.hid S
                    clear hbaseA
                    go_upto_region 26 with fail
                    try simp only [hxb]
                    obtain ⟨Wd26, hW⟩ : ∃ gx_, ((wr.alloc (.cells #[.int .i64 xv.kind, .int .i64 xv.n, .string xv.s] 29))) = gx_ := ⟨_, rfl⟩
                    rw [hW] at S ⊢
                    clear hW hxb
                    clear c0 c1 c2
                    go_cut [21, 22] from 123 to 138 (fun s21 s22 wx => ∃ qx, s21 = .bool false ∧ s22 = .pointer (some ⟨qx, 0, none⟩) ∧ Sep w (boxN qx ⟨#[82, 101, 99, 117, 114, 115, 105, 111, 110, 69, 114, 114, 111, 114]⟩ :: baseA) wx)
                    case first =>
                      have T0 : Sep w ([] ++ baseA) _ := S.out.drew
                      clear S
                      as_aux_lemma =>
                        refine wp_region_held_drew (S := fun W => W.cell? ⟨xb, 0, none⟩ = some (.int .i64 xv.kind) ∧ W.cell? ⟨xb, 1, none⟩ = some (.int .i64 xv.n) ∧ W.cell? ⟨xb, 2, none⟩ = some (.string xv.s) ∧ W.cell? ⟨g2, og2 + k * 3, none⟩ = some (.int .i64 yv.kind) ∧ W.cell? ⟨g2, og2 + k * 3 + 1, none⟩ = some (.int .i64 yv.n) ∧ W.cell? ⟨g2, og2 + k * 3 + 2, none⟩ = some (.string yv.s)) (by kernel_rfl) (KbaseA.out _ [] T0) (fun hH => ?_)
                        refine takeT 0 hH (hy := .inl ⟨by rfl, by (intro w hSw; try obtain ⟨u0, u1, u2, v0, v1, v2⟩ := hSw); (go_simp; try rfl)⟩) (h := ?_)
                        simp only [pu]
                        refine takeT 1 hH (hy := .inl ⟨by rfl, by (intro w hSw; try obtain ⟨u0, u1, u2, v0, v1, v2⟩ := hSw); (go_simp; try rfl)⟩) (h := ?_)
                        simp only [pu]
                        refine takeT 2 hH (hy := .inl ⟨by rfl, by (intro w hSw; try obtain ⟨u0, u1, u2, v0, v1, v2⟩ := hSw); (go_simp; try rfl)⟩) (h := ?_)
                        simp only [pu]
                        refine takeT 3 hH (hy := .inl ⟨by rfl, by (intro w hSw; try obtain ⟨u0, u1, u2, v0, v1, v2⟩ := hSw); (go_simp; try rfl)⟩) (h := ?_)
                        simp only [pu]
                        refine takeT 4 hH (hy := .inl ⟨by rfl, by (intro w hSw; try obtain ⟨u0, u1, u2, v0, v1, v2⟩ := hSw); (go_simp; try rfl)⟩) (h := ?_)
                        simp only [pu]
                        refine takeT 5 hH (hy := .inl ⟨by rfl, by (intro w hSw; try obtain ⟨u0, u1, u2, v0, v1, v2⟩ := hSw); (go_simp; try rfl)⟩) (h := ?_)
                        simp only [pu]
                        refine takeT 6 hH (hy := .inl ⟨by rfl, by (intro w hSw; try obtain ⟨u0, u1, u2, v0, v1, v2⟩ := hSw); (go_simp; try rfl)⟩) (h := ?_)
                        simp only [pu]
                        refine takeT 7 hH (hy := .inl ⟨by rfl, by (intro w hSw; try obtain ⟨u0, u1, u2, v0, v1, v2⟩ := hSw); (go_simp; try rfl)⟩) (h := ?_)
                        simp only [pu]
                        refine readyT [8, 12] ?_
                        refine consT (fun K hK => ?_) (consT (fun K hK => ?_) AllReadyH.nil)
                        · go_simp
                          go_wp2_with (go_at_call 64; refine (KS.out _ [] T0).mono ?_; rintro e w1 ⟨rfl, T1⟩)
                          clear hH
                          refine hK.out _ _ (KbaseA.out _ [] T1) (fun hH => ?_)
                          clear hK K
                          refine takeT 9 hH (hy := .inl ⟨by rfl, by (intro w hSw; try obtain ⟨u0, u1, u2, v0, v1, v2⟩ := hSw); (go_simp; try rfl)⟩) (h := ?_)
                          simp only [pu]
                          refine takeT 10 hH (hy := .inl ⟨by rfl, by (intro w hSw; try obtain ⟨u0, u1, u2, v0, v1, v2⟩ := hSw); (go_simp; try rfl)⟩) (h := ?_)
                          simp only [pu]
                          refine takeT 11 hH (hy := .inl ⟨by rfl, by (intro w hSw; try obtain ⟨u0, u1, u2, v0, v1, v2⟩ := hSw); (go_simp; try rfl)⟩) (h := ?_)
                          simp only [pu]
                          refine readyT [12] ?_
                          refine consT (fun K hK => ?_) AllReadyH.nil
                          go_simp
                          have T2 : Sep w ([boxE _] ++ baseA) _ := Sep.alloc T1 (.cells #[.string ⟨#[]⟩, .int .i64 0, .int .i64 0, .string ⟨#[]⟩, .bool false] 38)
                          try simp only [size_drew, World.size_alloc] at T2
                          clear hH
                          refine hK.out _ _ (KbaseA.out _ [_] T2) (fun hH => ?_)
                          clear hK K
                          refine takeT 13 hH (hy := .inl ⟨by rfl, by (intro w hSw; try obtain ⟨u0, u1, u2, v0, v1, v2⟩ := hSw); (go_simp; try rfl)⟩) (h := ?_)
                          simp only [pu]
                          refine readyT [14] ?_
                          refine consT (fun K hK => ?_) AllReadyH.nil
                          have hz := T2.box 0 rfl
                          have z0 := cellAt hz 0 (v := .string ⟨#[]⟩) rfl
                          have z1 := cellAt hz 1 (v := .int .i64 0) rfl
                          have z2 := cellAt hz 2 (v := .int .i64 0) rfl
                          have z3 := cellAt hz 3 (v := .string ⟨#[]⟩) rfl
                          have z4 := cellAt hz 4 (v := .bool false) rfl
                          have z5 := frozenAt hz 0
                          have z6 := frozenAt hz 1
                          have z7 := frozenAt hz 2
                          have z8 := frozenAt hz 3
                          have z9 := frozenAt hz 4
                          try simp only [World.cell?_drew, World.frozen?_drew] at z0 z1 z2 z3 z4 z5 z6 z7 z8 z9
                          go_simp
                          clear hz z0 z1 z2 z3 z4 z5 z6 z7 z8 z9
                          clear hH
                          first | (have T3 : Sep w ([boxN _ ⟨#[82, 101, 99, 117, 114, 115, 105, 111, 110, 69, 114, 114, 111, 114]⟩] ++ baseA) _ := (Sep.alloc T1 (.cells #[.string ⟨#[82, 101, 99, 117, 114, 115, 105, 111, 110, 69, 114, 114, 111, 114]⟩, .int .i64 0, .int .i64 0, .string ⟨#[]⟩, .bool false] 38)); (try simp only [size_drew, World.size_alloc] at T3); refine hK.out _ _ (KbaseA.out _ [_] T3) (fun hH => ?_)) | (have T3 : Sep w ([boxN _ ⟨#[82, 101, 99, 117, 114, 115, 105, 111, 110, 69, 114, 114, 111, 114]⟩] ++ baseA) _ := (Sep.setBox (cs := #[.string ⟨#[82, 101, 99, 117, 114, 115, 105, 111, 110, 69, 114, 114, 111, 114]⟩, .int .i64 0, .int .i64 0, .string ⟨#[]⟩, .bool false]) (t := 38) (Sep.setBox (cs := #[.string ⟨#[82, 101, 99, 117, 114, 115, 105, 111, 110, 69, 114, 114, 111, 114]⟩, .int .i64 0, .int .i64 0, .string ⟨#[]⟩, .bool false]) (t := 38) (Sep.setBox (cs := #[.string ⟨#[82, 101, 99, 117, 114, 115, 105, 111, 110, 69, 114, 114, 111, 114]⟩, .int .i64 0, .int .i64 0, .string ⟨#[]⟩, .bool false]) (t := 38) (Sep.setBox (cs := #[.string ⟨#[82, 101, 99, 117, 114, 115, 105, 111, 110, 69, 114, 114, 111, 114]⟩, .int .i64 0, .int .i64 0, .string ⟨#[]⟩, .bool false]) (t := 38) (Sep.setBox (cs := #[.string ⟨#[]⟩, .int .i64 0, .int .i64 0, .string ⟨#[]⟩, .bool false]) (t := 38) T2 0 rfl 0 (.string ⟨#[82, 101, 99, 117, 114, 115, 105, 111, 110, 69, 114, 114, 111, 114]⟩)) 0 rfl 1 (.int .i64 0)) 0 rfl 2 (.int .i64 0)) 0 rfl 3 (.string ⟨#[]⟩)) 0 rfl 4 (.bool false)); (try simp only [size_drew, World.size_alloc] at T3); refine hK.out _ _ (KbaseA.out _ [_] T3) (fun hH => ?_))
                          clear hK K
                          refine wpAnyH_done (by kernel_rfl) ?_ _
                          as_aux_lemma =>
                            go_wp2_with fail
                            go_meet
                            exact ⟨_, rfl, rfl, T3⟩
                        · go_simp
                          have T4 : Sep w ([boxE _] ++ baseA) _ := Sep.alloc T0 (.cells #[.string ⟨#[]⟩, .int .i64 0, .int .i64 0, .string ⟨#[]⟩, .bool false] 38)
                          try simp only [size_drew, World.size_alloc] at T4
                          clear hH
                          refine hK.out _ _ (KbaseA.out _ [_] T4) (fun hH => ?_)
                          clear hK K
                          refine readyT [8] ?_
                          refine consT (fun K hK => ?_) AllReadyH.nil
                          go_simp
                          go_wp2_with (go_at_call 64; refine (KS.out _ [_] T4).mono ?_; rintro e w5 ⟨rfl, T5⟩)
                          clear hH
                          refine hK.out _ _ (KbaseA.out _ [_] T5) (fun hH => ?_)
                          clear hK K
                          refine takeT 9 hH (hy := .inl ⟨by rfl, by (intro w hSw; try obtain ⟨u0, u1, u2, v0, v1, v2⟩ := hSw); (go_simp; try rfl)⟩) (h := ?_)
                          simp only [pu]
                          refine takeT 10 hH (hy := .inl ⟨by rfl, by (intro w hSw; try obtain ⟨u0, u1, u2, v0, v1, v2⟩ := hSw); (go_simp; try rfl)⟩) (h := ?_)
                          simp only [pu]
                          refine takeT 11 hH (hy := .inl ⟨by rfl, by (intro w hSw; try obtain ⟨u0, u1, u2, v0, v1, v2⟩ := hSw); (go_simp; try rfl)⟩) (h := ?_)
                          simp only [pu]
                          refine takeT 13 hH (hy := .inl ⟨by rfl, by (intro w hSw; try obtain ⟨u0, u1, u2, v0, v1, v2⟩ := hSw); (go_simp; try rfl)⟩) (h := ?_)
                          simp only [pu]
                          refine readyT [14] ?_
                          refine consT (fun K hK => ?_) AllReadyH.nil
                          have hz := T5.box 0 rfl
                          have z0 := cellAt hz 0 (v := .string ⟨#[]⟩) rfl
                          have z1 := cellAt hz 1 (v := .int .i64 0) rfl
                          have z2 := cellAt hz 2 (v := .int .i64 0) rfl
                          have z3 := cellAt hz 3 (v := .string ⟨#[]⟩) rfl
                          have z4 := cellAt hz 4 (v := .bool false) rfl
                          have z5 := frozenAt hz 0
                          have z6 := frozenAt hz 1
                          have z7 := frozenAt hz 2
                          have z8 := frozenAt hz 3
                          have z9 := frozenAt hz 4
                          try simp only [World.cell?_drew, World.frozen?_drew] at z0 z1 z2 z3 z4 z5 z6 z7 z8 z9
                          go_simp
                          clear hz z0 z1 z2 z3 z4 z5 z6 z7 z8 z9
                          clear hH
                          have T6 : Sep w ([boxN _ ⟨#[82, 101, 99, 117, 114, 115, 105, 111, 110, 69, 114, 114, 111, 114]⟩] ++ baseA) _ := (Sep.setBox (cs := #[.string ⟨#[82, 101, 99, 117, 114, 115, 105, 111, 110, 69, 114, 114, 111, 114]⟩, .int .i64 0, .int .i64 0, .string ⟨#[]⟩, .bool false]) (t := 38) (Sep.setBox (cs := #[.string ⟨#[82, 101, 99, 117, 114, 115, 105, 111, 110, 69, 114, 114, 111, 114]⟩, .int .i64 0, .int .i64 0, .string ⟨#[]⟩, .bool false]) (t := 38) (Sep.setBox (cs := #[.string ⟨#[82, 101, 99, 117, 114, 115, 105, 111, 110, 69, 114, 114, 111, 114]⟩, .int .i64 0, .int .i64 0, .string ⟨#[]⟩, .bool false]) (t := 38) (Sep.setBox (cs := #[.string ⟨#[82, 101, 99, 117, 114, 115, 105, 111, 110, 69, 114, 114, 111, 114]⟩, .int .i64 0, .int .i64 0, .string ⟨#[]⟩, .bool false]) (t := 38) (Sep.setBox (cs := #[.string ⟨#[]⟩, .int .i64 0, .int .i64 0, .string ⟨#[]⟩, .bool false]) (t := 38) T5 0 rfl 0 (.string ⟨#[82, 101, 99, 117, 114, 115, 105, 111, 110, 69, 114, 114, 111, 114]⟩)) 0 rfl 1 (.int .i64 0)) 0 rfl 2 (.int .i64 0)) 0 rfl 3 (.string ⟨#[]⟩)) 0 rfl 4 (.bool false))
                          try simp only [size_drew, World.size_alloc] at T6
                          refine hK.out _ _ (KbaseA.out _ [_] T6) (fun hH => ?_)
                          clear hK K
                          refine wpAnyH_done (by kernel_rfl) ?_ _
                          as_aux_lemma =>
                            go_wp2_with fail
                            go_meet
                            exact ⟨_, rfl, rfl, T6⟩
                    case rest =>
                      obtain ⟨eb, rfl, rfl, S⟩ := hcut
                      rw [HbaseA.out] at S
                      clear KS KbaseA HbaseA
                      replace S : Sep w (boxN eb ⟨#[82, 101, 99, 117, 114, 115, 105, 111, 110, 69, 114, 114, 111, 114]⟩ :: boxV xb xv :: valsR (.slice (some ⟨g, og, none⟩) XS.length xc) XS :: valsR (.slice (some ⟨g2, og2, none⟩) YS.length yc) YS :: boxE (b + 1 + 1) :: boxV (b + 1) y :: boxV b x :: Rs) _ := S
                      obtain ⟨e0, e1, e2, e3, e4, -⟩ := cells5 (S.box (b := eb) (o := objN ⟨#[82, 101, 99, 117, 114, 115, 105, 111, 110, 69, 114, 114, 111, 114]⟩) 0 rfl)
                      have HM : Hid (H.sameF (f + 1) x y = none) := Lib.hid (by rw [PK.out, allM_stop HK.out.1 HK.out.2.2.1 (by rw [HQ.out]; simp), HQ.out])
                      have hz := S.box (b := b + 1 + 1) 4 rfl
                      have z0 := cellAt hz 0 (v := .string ⟨#[]⟩) rfl
                      have z1 := cellAt hz 1 (v := .int .i64 0) rfl
                      have z2 := cellAt hz 2 (v := .int .i64 0) rfl
                      have z3 := cellAt hz 3 (v := .string ⟨#[]⟩) rfl
                      have z4 := cellAt hz 4 (v := .bool false) rfl
                      have z5 := frozenAt hz 0
                      have z6 := frozenAt hz 1
                      have z7 := frozenAt hz 2
                      have z8 := frozenAt hz 3
                      have z9 := frozenAt hz 4
                      have S9 := Lib.hid (S.toAny (q := b + 1 + 1) 4 rfl)
                      have FR : Hid (∀ W', Sep w (boxN eb ⟨#[82, 101, 99, 117, 114, 115, 105, 111, 110, 69, 114, 114, 111, 114]⟩ :: boxV xb xv :: valsR (.slice (some ⟨g, og, none⟩) XS.length xc) XS :: valsR (.slice (some ⟨g2, og2, none⟩) YS.length yc) YS :: anyR (b + 1 + 1) :: boxV (b + 1) y :: boxV b x :: Rs) W' → Sep w Rs W') := Lib.hid fun W' T => T.tail.tail.tail.tail.tail.tail.tail
                      clear S hz
                      go_wp2
                      go_region
                      go_wp2
                      refine bodyPost_ret (v := .tuple #[.bool false, excN recursionError]) (by simp [results, Tryz.results64, go_sem, z0, z1, z2, z3, z4]) rfl ⟨by rw [HM.out]; rfl, FR.out _ (Sep.drew ?_)⟩
                      iterate 5 refine Sep.poke (q := b + 1 + 1) ?_ 4 rfl _ _
                      exact S9.out
                · have hkn : k = XS.length := by omega
                  subst hkn
                  rw [List.take_of_length_le (by rw [HXS.out.2.2.2]; omega)] at hall
                  have HM : Hid (H.sameF (f + 1) x y = some true) := Lib.hid (by rw [PK.out, allM_all hall])
                  clear hall
                  have hz := S.box (b := b + 1 + 1) 2 rfl
                  have z0 := cellAt hz 0 (v := .string ⟨#[]⟩) rfl
                  have z1 := cellAt hz 1 (v := .int .i64 0) rfl
                  have z2 := cellAt hz 2 (v := .int .i64 0) rfl
                  have z3 := cellAt hz 3 (v := .string ⟨#[]⟩) rfl
                  have z4 := cellAt hz 4 (v := .bool false) rfl
                  have z5 := frozenAt hz 0
                  have z6 := frozenAt hz 1
                  have z7 := frozenAt hz 2
                  have z8 := frozenAt hz 3
                  have z9 := frozenAt hz 4
                  have S9 := Lib.hid (S.toAny (q := b + 1 + 1) 2 rfl)
                  have FR : Hid (∀ W', Sep w (valsR (.slice xa XS.length xc) XS :: valsR (.slice ya YS.length yc) YS :: anyR (b + 1 + 1) :: boxV (b + 1) y :: boxV b x :: Rs) W' → Sep w Rs W') := Lib.hid fun W' T => T.tail.tail.tail.tail.tail
                  clear S hz
                  go_wp2
                  refine bodyPost_ret (v := .tuple #[.bool true, excZ]) (by simp [results, Tryz.results64, go_sem, z0, z1, z2, z3, z4]) rfl ⟨by rw [HM.out]; rfl, FR.out _ ?_⟩
                  iterate 5 refine Sep.poke (q := b + 1 + 1) ?_ 2 rfl _ _
                  exact S9.out
          · have hnn1 : (nx != ny) = true := by simp [hnn]
            have hnn2 : (nx : Int) ≠ (ny : Int) := by omega
            have HM : Hid (H.sameF (f + 1) x y = some false) := Lib.hid (by rw [HM0.out, if_pos hnn])
            have hz := S.box (b := b + 1 + 1) 0 rfl
            have z0 := cellAt hz 0 (v := .string ⟨#[]⟩) rfl
            have z1 := cellAt hz 1 (v := .int .i64 0) rfl
            have z2 := cellAt hz 2 (v := .int .i64 0) rfl
            have z3 := cellAt hz 3 (v := .string ⟨#[]⟩) rfl
            have z4 := cellAt hz 4 (v := .bool false) rfl
            have z5 := frozenAt hz 0
            have z6 := frozenAt hz 1
            have z7 := frozenAt hz 2
            have z8 := frozenAt hz 3
            have z9 := frozenAt hz 4
            have S9 := Lib.hid (S.toAny (q := b + 1 + 1) 0 rfl)
            have FR : Hid (∀ W', Sep w (anyR (b + 1 + 1) :: boxV (b + 1) y :: boxV b x :: Rs) W' → Sep w Rs W') := Lib.hid fun W' T => T.tail.tail.tail
            clear S hz
            go_wp2
            refine bodyPost_ret (v := .tuple #[.bool false, excZ]) (by simp [results, Tryz.results64, go_sem, z0, z1, z2, z3, z4]) rfl ⟨by rw [HM.out]; rfl, FR.out _ ?_⟩
            iterate 5 refine Sep.poke (q := b + 1 + 1) ?_ 0 rfl _ _
            exact S9.out
        · have hb2 : (kx != ky) = true := by simp [hkk]
          refine wp_region_sep (by kernel_rfl) (by kernel_rfl) (S) ?_
          repeat (first | go_big_quiet_skip | (go_big_quiet_want; apply Exists.intro; refine ⟨fun Wq hWq => ?_, ?_⟩; (focus (have d0 := wpVal x (hWq.box (b := b) 2 rfl); have d1 := wpVal y (hWq.box (b := b + 1) 1 rfl); obtain ⟨d00, d01, d02⟩ := d0; obtain ⟨d10, d11, d12⟩ := d1; go_simp; first | done | rfl | exact ⟨rfl, rfl⟩ | (with_reducible (first | exact KW.out _ hWq | exact KX.out _ hWq | exact KY.out _ hWq)))); go_big_quiet_on; simp only [Act.put, List.setIfInBounds_toArray, List.set_cons_zero, List.set_cons_succ]))
          refine wpQuiet_nil ?_
          intro wq hq
          have HM0 := Lib.hid (ST.out (.inr hkk))
          clear S
          have S := hq
          clear hq
          obtain ⟨d0, d1, d2, -⟩ := cells3 (S.box (b := b) (o := objV x) 2 rfl)
          obtain ⟨d3, d4, d5, -⟩ := cells3 (S.box (b := b + 1) (o := objV y) 1 rfl)
          have M := Lib.hid (KX.out _ S)
          clear S
          go_wp2_with fail
          refine M.out.mono ?_
          rintro e w7 ⟨rfl, S⟩
          clear M d0 d1 d2 d3 d4 d5
          by_cases hk0 : kx = 0
          · subst hk0
            have HM : Hid (H.sameF (f + 1) x y = some (decide (x = y))) := Lib.hid (by rw [HM0.out]; simp)
            obtain ⟨d0, d1, d2, -⟩ := cells3 (S.box (b := b) (o := objV x) 2 rfl)
            obtain ⟨d3, d4, d5, -⟩ := cells3 (S.box (b := b + 1) (o := objV y) 1 rfl)
            have EQ1 := EQ.out
            have hz := S.box (b := b + 1 + 1) 0 rfl
            have z0 := cellAt hz 0 (v := .string ⟨#[]⟩) rfl
            have z1 := cellAt hz 1 (v := .int .i64 0) rfl
            have z2 := cellAt hz 2 (v := .int .i64 0) rfl
            have z3 := cellAt hz 3 (v := .string ⟨#[]⟩) rfl
            have z4 := cellAt hz 4 (v := .bool false) rfl
            have z5 := frozenAt hz 0
            have z6 := frozenAt hz 1
            have z7 := frozenAt hz 2
            have z8 := frozenAt hz 3
            have z9 := frozenAt hz 4
            have S9 := Lib.hid (S.toAny (q := b + 1 + 1) 0 rfl)
            have FR : Hid (∀ W', Sep w (anyR (b + 1 + 1) :: boxV (b + 1) y :: boxV b x :: Rs) W' → Sep w Rs W') := Lib.hid fun W' T => T.tail.tail.tail
            clear S hz
            go_wp2
            refine bodyPost_ret (v := .tuple #[.bool (decide (x = y)), excZ]) (by simp [results, Tryz.results64, go_sem, z0, z1, z2, z3, z4]) rfl ⟨by rw [HM.out]; rfl, FR.out _ ?_⟩
            iterate 5 refine Sep.poke (q := b + 1 + 1) ?_ 0 rfl _ _
            exact S9.out
          · have hk1 : (kx == 0) = false := by simp [hk0]
            obtain ⟨d0, d1, d2, -⟩ := cells3 (S.box (b := b) (o := objV x) 2 rfl)
            obtain ⟨d3, d4, d5, -⟩ := cells3 (S.box (b := b + 1) (o := objV y) 1 rfl)
            have M := Lib.hid (KY.out _ S)
            clear S
            go_wp2_with fail
            refine M.out.mono ?_
            rintro e w8 ⟨rfl, S⟩
            clear M d0 d1 d2 d3 d4 d5
            by_cases hm0 : ky = 0
            · subst hm0
              have HM : Hid (H.sameF (f + 1) x y = some (decide (x = y))) := Lib.hid (by rw [HM0.out]; simp)
              obtain ⟨d0, d1, d2, -⟩ := cells3 (S.box (b := b) (o := objV x) 2 rfl)
              obtain ⟨d3, d4, d5, -⟩ := cells3 (S.box (b := b + 1) (o := objV y) 1 rfl)
              have EQ1 := EQ.out
              have hz := S.box (b := b + 1 + 1) 0 rfl
              have z0 := cellAt hz 0 (v := .string ⟨#[]⟩) rfl
              have z1 := cellAt hz 1 (v := .int .i64 0) rfl
              have z2 := cellAt hz 2 (v := .int .i64 0) rfl
              have z3 := cellAt hz 3 (v := .string ⟨#[]⟩) rfl
              have z4 := cellAt hz 4 (v := .bool false) rfl
              have z5 := frozenAt hz 0
              have z6 := frozenAt hz 1
              have z7 := frozenAt hz 2
              have z8 := frozenAt hz 3
              have z9 := frozenAt hz 4
              have S9 := Lib.hid (S.toAny (q := b + 1 + 1) 0 rfl)
              have FR : Hid (∀ W', Sep w (anyR (b + 1 + 1) :: boxV (b + 1) y :: boxV b x :: Rs) W' → Sep w Rs W') := Lib.hid fun W' T => T.tail.tail.tail
              clear S hz
              go_wp2
              refine bodyPost_ret (v := .tuple #[.bool (decide (x = y)), excZ]) (by simp [results, Tryz.results64, go_sem, z0, z1, z2, z3, z4]) rfl ⟨by rw [HM.out]; rfl, FR.out _ ?_⟩
              iterate 5 refine Sep.poke (q := b + 1 + 1) ?_ 0 rfl _ _
              exact S9.out
            · have hm1 : (ky == 0) = false := by simp [hm0]
              have HM : Hid (H.sameF (f + 1) x y = some false) := Lib.hid (by rw [HM0.out]; simp [hk0, hm0])
              obtain ⟨d0, d1, d2, -⟩ := cells3 (S.box (b := b) (o := objV x) 2 rfl)
              obtain ⟨d3, d4, d5, -⟩ := cells3 (S.box (b := b + 1) (o := objV y) 1 rfl)
              have EQ1 := EQ.out
              have hz := S.box (b := b + 1 + 1) 0 rfl
              have z0 := cellAt hz 0 (v := .string ⟨#[]⟩) rfl
              have z1 := cellAt hz 1 (v := .int .i64 0) rfl
              have z2 := cellAt hz 2 (v := .int .i64 0) rfl
              have z3 := cellAt hz 3 (v := .string ⟨#[]⟩) rfl
              have z4 := cellAt hz 4 (v := .bool false) rfl
              have z5 := frozenAt hz 0
              have z6 := frozenAt hz 1
              have z7 := frozenAt hz 2
              have z8 := frozenAt hz 3
              have z9 := frozenAt hz 4
              have S9 := Lib.hid (S.toAny (q := b + 1 + 1) 0 rfl)
              have FR : Hid (∀ W', Sep w (anyR (b + 1 + 1) :: boxV (b + 1) y :: boxV b x :: Rs) W' → Sep w Rs W') := Lib.hid fun W' T => T.tail.tail.tail
              clear S hz
              go_wp2
              refine bodyPost_ret (v := .tuple #[.bool (false), excZ]) (by simp [results, Tryz.results64, go_sem, z0, z1, z2, z3, z4]) rfl ⟨by rw [HM.out]; rfl, FR.out _ ?_⟩
              iterate 5 refine Sep.poke (q := b + 1 + 1) ?_ 0 rfl _ _
              exact S9.out
end
end Go.Proofs.YtellmfimmghidaaGreat
