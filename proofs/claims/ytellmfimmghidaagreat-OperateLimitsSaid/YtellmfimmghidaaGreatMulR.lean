/- ch 16: multiply, of rows; what Bin makes of rows. -/
import Derived.Test.YtellmfimmghidaaGreatOprH
import Derived.Test.YtellmfimmghidaaGreatRowT
namespace Go.Proofs.YtellmfimmghidaaGreat
set_option linter.unusedSimpArgs false
open Go.RowKit
set_option linter.unusedVariables false
/-- A row so many times over. -/
def repl {α : Type} : Nat → List α → List α
  | 0, _ => []
  | c + 1, l => repl c l ++ l
theorem repl_len {α : Type} (c : Nat) (l : List α) : (repl c l).length = c * l.length := by
  induction c with
  | zero => simp [repl]
  | succ c ih => rw [repl, List.length_append, ih, Nat.succ_mul]
theorem repl_nil {α : Type} (c : Nat) : repl c ([] : List α) = [] := by
  induction c with
  | zero => rfl
  | succ c ih => rw [repl, ih]; rfl
section
variable {w W : World} {Rs : List Res} {h : Nat} {H : HeapM}
theorem Sep.nilV (S : Sep w Rs W) : Sep w (valsR (.slice none 0 0) [] :: Rs) W :=
  S.addRow (Below.refl _ _) (World.ownsRow_nil _ _ _ _) (by simp [Value.ownBlock])
set_option maxRecDepth 100000 in
set_option maxHeartbeats 12800000 in
theorem mul_row (S : Sep w Rs W) (i : Nat) (hi : Rs[i]? = some (heapR h H)) {N : Nat} (G : H.Good N) (hN : N + 1 ≤ 4000000) (r m : V) (hr : H.rowB r = true) (hm : m.kind = 2) (hl : m.n.toNat * (H.items r).length ≤ 4096) : Calls Tryz.prog 54 #[.pointer (some ⟨h, 0, none⟩), .agg #[.int .i64 r.kind, .int .i64 r.n, .string r.s], .agg #[.int .i64 m.kind, .int .i64 m.n, .string m.s]] W fun e W' => e = .returned (.tuple #[.agg #[.int .i64 4, .int .i64 (H.last + 1), .string ⟨#[]⟩], excZ]) ∧ Sep w (Rs.set i (heapR h (H.add (rowO (H.kind r) (H.okKind r) (repl m.n.toNat (H.items r)))))) W' := by
  obtain ⟨X1, hX1⟩ : ∃ l, l = H.items r := ⟨_, rfl⟩
  have hkx := HeapM.rowB_kind hr
  have e3 : (r.kind == 3) = false := by have := H.kind_ref r (by omega); simp [this]
  have e1 : (r.kind == 2) = false := by have := H.kind_ref r (by omega); simp [this]
  have e2 : (m.kind != 2) = false := by simp [hm]
  obtain ⟨kx, hK⟩ : ∃ k, k = H.kind r := ⟨_, rfl⟩
  have hok : okI kx := by rw [hK]; exact H.okKind r
  rw [← hX1] at hl
  have HX := Lib.hid hX1
  have HK := Lib.hid hK
  have HR := Lib.hid hr
  have hgx : X1.length ≤ N := by rw [hX1]; exact G.items r
  have hxb : (X1.length : Int) ≤ 9223372036854775807 := by omega
  have HB : Hid (1 ≤ kx ∧ kx ≤ 12) := Lib.hid (by rw [hK]; omega)
  have HLL := Lib.hid hl
  have HGX := Lib.hid hgx
  obtain ⟨z0, hz0⟩ : ∃ z, z = m.n := ⟨_, rfl⟩
  have HZ0 := Lib.hid hz0
  have hzb := okI_range m.hn
  rw [← hz0] at hzb
  have HZB := Lib.hid hzb
  clear hX1 hK hr hkx hm hl hz0 hzb
  obtain ⟨b, hb⟩ : ∃ gx_, (W.heap.size) = gx_ := ⟨_, rfl⟩
  replace S := ((((S.alloc (.cells #[.int .i64 r.kind, .int .i64 r.n, .string r.s] 29)).alloc (.cells #[.int .i64 m.kind, .int .i64 m.n, .string m.s] 29)).alloc (.cells #[.int .i64 0, .int .i64 0, .string ⟨#[]⟩] 29)).alloc (.cells #[.string ⟨#[]⟩, .int .i64 0, .int .i64 0, .string ⟨#[]⟩, .bool false] 38))
  simp only [World.size_alloc, hb] at S
  replace S : Sep w (boxE (b + 1 + 1 + 1) :: boxZ (b + 1 + 1) :: boxV (b + 1) m :: boxV b r :: Rs) ((((W.alloc (.cells #[.int .i64 r.kind, .int .i64 r.n, .string r.s] 29)).alloc (.cells #[.int .i64 m.kind, .int .i64 m.n, .string m.s] 29)).alloc (.cells #[.int .i64 0, .int .i64 0, .string ⟨#[]⟩] 29)).alloc (.cells #[.string ⟨#[]⟩, .int .i64 0, .int .i64 0, .string ⟨#[]⟩, .bool false] 38)) := S
  obtain ⟨Rt, hRt⟩ : ∃ l, l = Rs.eraseIdx i := ⟨_, rfl⟩
  have HF : Hid (∀ H' W', Sep w (heapR h H' :: Rt) W' → Sep w (Rs.set i (heapR h H')) W') := Lib.hid fun H' W' T => by rw [hRt] at T; exact T.perm (perm_push hi).symm
  obtain ⟨bA, hbs⟩ : ∃ l, l = Rt := ⟨_, rfl⟩
  have HBS := Lib.hid hbs
  replace S : Sep w ([boxE (b + 1 + 1 + 1), boxZ (b + 1 + 1), boxV (b + 1) m, boxV b r, heapR h H] ++ bA) ((((W.alloc (.cells #[.int .i64 r.kind, .int .i64 r.n, .string r.s] 29)).alloc (.cells #[.int .i64 m.kind, .int .i64 m.n, .string m.s] 29)).alloc (.cells #[.int .i64 0, .int .i64 0, .string ⟨#[]⟩] 29)).alloc (.cells #[.string ⟨#[]⟩, .int .i64 0, .int .i64 0, .string ⟨#[]⟩, .bool false] 38)) := by
    rw [hbs]
    refine (show Sep w ([boxE (b + 1 + 1 + 1), boxZ (b + 1 + 1), boxV (b + 1) m, boxV b r] ++ Rs) _ from S).perm ?_
    have e : Rs.Perm (heapR h H :: Rt) := by rw [hRt]; exact perm_pull hi
    refine (List.Perm.append_left _ e).trans ?_
    exact (show ([boxE (b + 1 + 1 + 1), boxZ (b + 1 + 1), boxV (b + 1) m, boxV b r] ++ ([heapR h H] ++ Rt)).Perm ([boxE (b + 1 + 1 + 1), boxZ (b + 1 + 1), boxV (b + 1) m, boxV b r, heapR h H] ++ ([] ++ Rt)) from by rw [← List.append_assoc, ← List.append_assoc]; exact List.Perm.append_right Rt (by exact perm_of [0, 1, 2, 3, 4] (by show (List.range' 0 5).Perm [0, 1, 2, 3, 4]; decide) (by rfl)))
  clear hRt
  clear hbs
  replace S := Lib.hid S
  go_enter Tryz.func54, Tryz.ntmps54
  go_upto_region 1 with fail
  try simp only [World.size_alloc, hb]
  clear hb
  refine regionL (E := [boxE (b + 1 + 1 + 1), boxZ (b + 1 + 1), boxV (b + 1) m, boxV b r, heapR h H]) (base := bA) S.out ?_
  clear S
  refine quietL ?_
  simp only [pu]
  refine detL _ [boxE (b + 1 + 1 + 1), boxZ (b + 1 + 1), boxV (b + 1) m, boxV b r, heapR h H] (h1 := fun Wx hSw => by (have hz := hSw.box (b := b) (o := objV r) 3 rfl; have z0 := cellAt hz 0 (v := .int .i64 r.kind) rfl; have z1 := cellAt hz 1 (v := .int .i64 r.n) rfl; have z2 := cellAt hz 2 (v := .string r.s) rfl; go_simp; exact ⟨rfl, hSw⟩)) (h2 := ?_)
  simp only [pu]
  refine quietL ?_
  simp only [pu]
  intro w1 S
  replace S := Lib.hid S
  go_upto_region 3 with fail
  refine regionL (E := [boxE (b + 1 + 1 + 1), boxZ (b + 1 + 1), boxV (b + 1) m, boxV b r, heapR h H]) (base := bA) S.out ?_
  clear S
  refine quietL ?_
  simp only [pu]
  refine detL _ [boxE (b + 1 + 1 + 1), boxZ (b + 1 + 1), boxV (b + 1) m, boxV b r, heapR h H] (h1 := fun Wx hSw => by (have hz := hSw.box (b := (b + 1)) (o := objV m) 2 rfl; have z0 := cellAt hz 0 (v := .int .i64 m.kind) rfl; have z1 := cellAt hz 1 (v := .int .i64 m.n) rfl; have z2 := cellAt hz 2 (v := .string m.s) rfl; go_simp; exact ⟨rfl, hSw⟩)) (h2 := ?_)
  simp only [pu]
  iterate 2 (refine quietL ?_; simp only [pu])
  intro w2 S
  replace S := Lib.hid S
  go_upto_region 5 with fail
  refine regionL (E := [boxE (b + 1 + 1 + 1), boxZ (b + 1 + 1), boxV (b + 1) m, boxV b r, heapR h H]) (base := bA) S.out ?_
  clear S
  refine quietL ?_
  simp only [pu]
  refine detL _ [boxE (b + 1 + 1 + 1), boxZ (b + 1 + 1), boxV (b + 1) m, boxV b r, heapR h H] (h1 := fun Wx hSw => by (have hz := hSw.box (b := b) (o := objV r) 3 rfl; have z0 := cellAt hz 0 (v := .int .i64 r.kind) rfl; have z1 := cellAt hz 1 (v := .int .i64 r.n) rfl; have z2 := cellAt hz 2 (v := .string r.s) rfl; go_simp; exact ⟨rfl, hSw⟩)) (h2 := ?_)
  simp only [pu]
  iterate 2 (refine quietL ?_; simp only [pu])
  intro w3 S
  replace S := Lib.hid S
  clear e1 e2 e3
  go_upto_region 7 with fail
  refine regionL (E := [boxE (b + 1 + 1 + 1), boxZ (b + 1 + 1), boxV (b + 1) m, boxV b r, heapR h H]) (base := bA) S.out ?_
  clear S
  refine quietL ?_
  simp only [pu]
  refine detL _ [boxE (b + 1 + 1 + 1), boxZ (b + 1 + 1), boxV (b + 1) m, boxV b r, heapR h H] (h1 := fun Wx hSw => by (have hz := hSw.box (b := b) (o := objV r) 3 rfl; have z0 := cellAt hz 0 (v := .int .i64 r.kind) rfl; have z1 := cellAt hz 1 (v := .int .i64 r.n) rfl; have z2 := cellAt hz 2 (v := .string r.s) rfl; go_simp; exact ⟨rfl, hSw⟩)) (h2 := ?_)
  simp only [pu]
  refine detL (.bool true) [boxE (b + 1 + 1 + 1), boxZ (b + 1 + 1), boxV (b + 1) m, boxV b r, heapR h H] (h1 := fun Wx hSw => by (go_simp; refine symCall ?_; exact row_ok hSw 4 rfl r true HR.out)) (h2 := ?_)
  simp only [pu]
  iterate 2 (refine quietL ?_; simp only [pu])
  intro w4 S
  replace S := Lib.hid S
  go_upto_region 9 with fail
  refine regionL (E := [emptyR, boxE (b + 1 + 1 + 1), boxZ (b + 1 + 1), boxV (b + 1) m, boxV b r, heapR h H]) (base := bA) (Sep.putE S.out) ?_
  clear S
  refine quietL ?_
  simp only [pu]
  refine detL _ [emptyR, boxE (b + 1 + 1 + 1), boxZ (b + 1 + 1), boxV (b + 1) m, boxV b r, heapR h H] (h1 := fun Wx hSw => by (have hz := hSw.box (b := b) (o := objV r) 4 rfl; have z0 := cellAt hz 0 (v := .int .i64 r.kind) rfl; have z1 := cellAt hz 1 (v := .int .i64 r.n) rfl; have z2 := cellAt hz 2 (v := .string r.s) rfl; go_simp; exact ⟨rfl, hSw⟩)) (h2 := ?_)
  simp only [pu]
  refine stepL (fun v E1 => ∃ (a2 : Option Addr) (c2 : Nat), v = .slice a2 X1.length c2 ∧ E1 = [valsR (.slice a2 X1.length c2) X1, boxE (b + 1 + 1 + 1), boxZ (b + 1 + 1), boxV (b + 1) m, boxV b r, heapR h H]) (h1 := fun Wx hSw => by (go_simp; refine symCallN ?_; have hh := opi_items hSw 5 rfl G (by omega) r; rw [← HX.out] at hh; exact hh.mono fun e W' ⟨a, c, e1, e2⟩ => ⟨_, _, e1, ⟨a, c, rfl, rfl⟩, e2.into 0 rfl⟩)) (h2 := fun v E1 hvE => ?_)
  obtain ⟨a2, c2, rfl, rfl⟩ := hvE
  simp only [pu]
  refine quietL ?_
  simp only [pu]
  intro w5 S
  replace S := Lib.hid S
  go_upto_region 11 with fail
  refine regionL (E := [valsR (.slice a2 X1.length c2) X1, boxE (b + 1 + 1 + 1), boxZ (b + 1 + 1), boxV (b + 1) m, boxV b r, heapR h H]) (base := bA) S.out ?_
  clear S
  refine quietL ?_
  simp only [pu]
  refine detL _ [valsR (.slice a2 X1.length c2) X1, boxE (b + 1 + 1 + 1), boxZ (b + 1 + 1), boxV (b + 1) m, boxV b r, heapR h H] (h1 := fun Wx hSw => by (have hz := hSw.box (b := (b + 1)) (o := objV m) 3 rfl; have z0 := cellAt hz 0 (v := .int .i64 m.kind) rfl; have z1 := cellAt hz 1 (v := .int .i64 m.n) rfl; have z2 := cellAt hz 2 (v := .string m.s) rfl; go_simp; exact ⟨rfl, hSw⟩)) (h2 := ?_)
  simp only [pu]
  refine quietL ?_
  simp only [pu]
  intro w6 S
  replace S := Lib.hid S
  replace S := Lib.hid S.out.nilV
  rw [← HZ0.out]
  go_wp2
  go_loopw [9, 10] (fun s9 s10 wr => ∃ (c L : Nat) (z : Int) (a : Option Addr) (cp : Nat), Hid (c ≤ z0.toNat ∧ z = z0 - c ∧ (repl c X1).length = L ∧ (c = 0 ∨ L ≤ 4096 + X1.length)) ∧ s9 = .slice a L cp ∧ s10 = .int .i64 z ∧ Sep w ([valsR (.slice a L cp) (repl c X1), valsR (.slice a2 X1.length c2) X1, boxE (b + 1 + 1 + 1), boxZ (b + 1 + 1), boxV (b + 1) m, boxV b r, heapR h H] ++ bA) wr) (fun _ s10 _ => (intOf s10).toNat)
  case atStart => exact ⟨0, 0, z0, none, 0, Lib.hid ⟨by omega, by simp, rfl, .inl rfl⟩, rfl, rfl, S.out⟩
  case round =>
    obtain ⟨c, L, z, a, cp, HI, rfl, rfl, S⟩ := hrel
    replace S := Lib.hid S
    by_cases hgo : 0 < z ∧ 0 < X1.length ∧ L ≤ 4096
    ·
      obtain ⟨g1, g2, g3⟩ := hgo
      have q2 : (0 : Int) < X1.length := by omega
      have q3 : (L : Int) ≤ 4096 := by omega
      have hw : IntKind.i64.wrap (z - 1) = z - 1 := IntWalk.i64_in _ (by have := HI.out.2.1; have := HZB.out; omega)
      obtain ⟨L2, hL2⟩ : ∃ L2, L + X1.length = L2 := ⟨_, rfl⟩
      have HL2 := Lib.hid hL2
      have HG := Lib.hid (And.intro g1 g3)
      clear hL2
      go_upto_region 14 with fail
      refine regionL (E := [valsR (.slice a L cp) (repl c X1), valsR (.slice a2 X1.length c2) X1, boxE (b + 1 + 1 + 1), boxZ (b + 1 + 1), boxV (b + 1) m, boxV b r, heapR h H]) (base := bA) S.out ?_
      clear S
      iterate 2 (refine quietL ?_; simp only [pu])
      refine stepL (fun v E1 => ∃ (va1 : Option Addr) (vc1 : Nat), v = .slice va1 L2 vc1 ∧ E1 = [valsR (.slice va1 L2 vc1) (repl c X1 ++ X1), valsR (.slice a2 X1.length c2) X1, boxE (b + 1 + 1 + 1), boxZ (b + 1 + 1), boxV (b + 1) m, boxV b r, heapR h H]) (h1 := fun Wx hSw => by (obtain ⟨va, vc, w2, hr, S2⟩ := hSw.appendV 0 rfl HI.out.2.2.1 (hSw.seesV 1 rfl) L2 HL2.out (by have := HL2.out; have := HG.out.2; have := HGX.out; omega); exact symAppend _ _ _ _ rfl _ _ rfl rfl hr ⟨_, ⟨va, vc, rfl, rfl⟩, S2⟩)) (h2 := fun v E1 hvE => ?_)
      obtain ⟨va1, vc1, rfl, rfl⟩ := hvE
      simp only [pu]
      refine quietL ?_
      simp only [pu]
      intro w7 S
      replace S := Lib.hid S
      clear g2 g3 q2 q3
      go_wp2
      exact ⟨⟨c + 1, L2, z - 1, _, _, Lib.hid ⟨by have := HI.out.2.1; have := HG.out.1; omega, by have := HI.out.2.1; omega, by rw [repl, List.length_append, HI.out.2.2.1]; exact HL2.out, .inr (by have := HL2.out; have := HG.out.2; omega)⟩, rfl, rfl, S.out⟩, by have := HG.out.1; simp [intOf]; omega⟩
    ·
      have hex : repl c X1 = repl z0.toNat X1 ∧ L ≤ 4096 ∧ (¬ 0 < z ∨ (0 < z ∧ ¬ (0 : Int) < X1.length)) := by
        have hi := HI.out; have hll := HLL.out; rw [← HZ0.out] at hll
        by_cases g1 : 0 < z
        · by_cases g2 : 0 < X1.length
          · exfalso; refine hgo ⟨g1, g2, ?_⟩; rw [← hi.2.2.1, repl_len]; exact Nat.le_trans (Nat.mul_le_mul_right _ hi.1) hll
          · have e : X1 = [] := List.length_eq_zero_iff.1 (by omega)
            refine ⟨by rw [e, repl_nil, repl_nil], ?_, .inr ⟨g1, by omega⟩⟩
            rw [← hi.2.2.1, e, repl_nil]; simp
        · have e : c = z0.toNat := by omega
          subst e
          exact ⟨rfl, by rw [← hi.2.2.1, repl_len]; exact hll, .inl g1⟩
      obtain ⟨he, hL, hw⟩ := hex
      have HE := Lib.hid he
      have HL := Lib.hid hL
      have HLN := Lib.hid HI.out.2.2.1
      clear he hL hgo HI
      rcases hw with g1 | ⟨g1, g2⟩
      all_goals (
        go_upto_region 15 with fail
        refine regionL (E := [valsR (.slice a L cp) (repl c X1), valsR (.slice a2 X1.length c2) X1, boxE (b + 1 + 1 + 1), boxZ (b + 1 + 1), boxV (b + 1) m, boxV b r, heapR h H]) (base := bA) S.out ?_
        clear S
        iterate 2 (refine quietL ?_; simp only [pu])
        refine detL _ [valsR (.slice a L cp) (repl c X1), valsR (.slice a2 X1.length c2) X1, boxE (b + 1 + 1 + 1), boxZ (b + 1 + 1), boxV (b + 1) m, boxV b r, heapR h H] (h1 := fun Wx hSw => by (have hz := hSw.box (b := b) (o := objV r) 5 rfl; have z0 := cellAt hz 0 (v := .int .i64 r.kind) rfl; have z1 := cellAt hz 1 (v := .int .i64 r.n) rfl; have z2 := cellAt hz 2 (v := .string r.s) rfl; go_simp; exact ⟨rfl, hSw⟩)) (h2 := ?_)
        simp only [pu]
        refine detL (.int .i64 kx) [valsR (.slice a L cp) (repl c X1), valsR (.slice a2 X1.length c2) X1, boxE (b + 1 + 1 + 1), boxZ (b + 1 + 1), boxV (b + 1) m, boxV b r, heapR h H] (h1 := fun Wx hSw => by (go_simp; refine symCall ?_; exact kind_at hSw 6 rfl r kx HK.out.symm)) (h2 := ?_)
        simp only [pu]
        refine quietL ?_
        simp only [pu]
        refine detL (.tuple #[.agg #[.int .i64 4, .int .i64 (H.last + 1), .string ⟨#[]⟩], excZ]) [valsR (.slice a L cp) (repl c X1), valsR (.slice a2 X1.length c2) X1, boxE (b + 1 + 1 + 1), boxZ (b + 1 + 1), boxV (b + 1) m, boxV b r, heapR h (H.add (rowO kx hok (repl c X1)))] (h1 := fun Wx hSw => by (go_simp; refine symCall ?_; have hh := fresh_ok hSw 6 rfl G hN kx hok HB.out.1 HB.out.2 a cp (repl c X1) (fun W' T => by rw [HLN.out]; exact T.seesV 0 rfl) (by rw [HLN.out]; exact HL.out); rw [HLN.out] at hh; exact hh)) (h2 := ?_)
        simp only [pu]
        iterate 2 (refine quietL ?_; simp only [pu])
        refine detL undef [valsR (.slice a L cp) (repl c X1), valsR (.slice a2 X1.length c2) X1, boxE (b + 1 + 1 + 1), boxW (b + 1 + 1) 4 (H.last + 1) ⟨#[]⟩, boxV (b + 1) m, boxV b r, heapR h (H.add (rowO kx hok (repl c X1)))] (h1 := fun Wx hSw => by (have hz := hSw.box (b := (b + 1 + 1)) (o := objZ) 3 rfl; refine useZ3 hz fun z0 z1 z2 y0 y1 y2 => ?_; go_simp; exact ⟨rfl, hSw.set3 3 rfl (.int .i64 4) (.int .i64 (H.last + 1)) (.string ⟨#[]⟩)⟩)) (h2 := ?_)
        simp only [pu]
        refine detL undef [valsR (.slice a L cp) (repl c X1), valsR (.slice a2 X1.length c2) X1, boxE (b + 1 + 1 + 1), boxW (b + 1 + 1) 4 (H.last + 1) ⟨#[]⟩, boxV (b + 1) m, boxV b r, heapR h (H.add (rowO kx hok (repl c X1)))] (h1 := fun Wx hSw => by (have hz := hSw.box (b := (b + 1 + 1 + 1)) (o := objE) 2 rfl; refine useZ5 hz fun z0 z1 z2 z3 z4 y0 y1 y2 y3 y4 => ?_; go_simp; exact ⟨rfl, hSw.set5 2 rfl (.string ⟨#[]⟩) (.int .i64 0) (.int .i64 0) (.string ⟨#[]⟩) (.bool false)⟩)) (h2 := ?_)
        simp only [pu]
        intro w51 S
        replace S := Lib.hid S
        replace S := S.out
        refine useR3 (S.box (b := b + 1 + 1) (o := objW 4 (H.last + 1) ⟨#[]⟩) 3 rfl) fun r0 r1 r2 => ?_
        refine useR5 (S.box (b := b + 1 + 1 + 1) (o := objE) 2 rfl) fun r3 r4 r5 r6 r7 => ?_
        replace S := Lib.hid S
        go_wp2
        refine bodyPost_ret (v := .tuple #[.agg #[.int .i64 4, .int .i64 (H.last + 1), .string ⟨#[]⟩], .agg #[.string ⟨#[]⟩, .int .i64 0, .int .i64 0, .string ⟨#[]⟩, .bool false]]) (by simp [results, Tryz.results54, go_sem, r0, r1, r2, r3, r4, r5, r6, r7]) rfl ⟨rfl, ?_⟩
        replace S := S.out
        rw [HBS.out] at S
        have hX1 := HX.out
        have hK := HK.out
        have hZ := HZ0.out
        have hE := HE.out
        rw [hE] at S
        subst hX1 hK hZ
        iterate 6 replace S := S.tail
        exact HF.out _ _ S
      )
set_option maxRecDepth 100000 in
set_option maxHeartbeats 12800000 in
theorem mul_row_no (S : Sep w Rs W) (i : Nat) (hi : Rs[i]? = some (heapR h H)) {N : Nat} (G : H.Good N) (hN : N + 1 ≤ 4000000) (r m : V) (hr : H.rowB r = true) (hm : m.kind = 2) (hl : 4096 < m.n.toNat * (H.items r).length) : Calls Tryz.prog 54 #[.pointer (some ⟨h, 0, none⟩), .agg #[.int .i64 r.kind, .int .i64 r.n, .string r.s], .agg #[.int .i64 m.kind, .int .i64 m.n, .string m.s]] W fun e W' => e = .returned (.tuple #[zeroV, excN memoryError]) ∧ Sep w Rs W' := by
  obtain ⟨X1, hX1⟩ : ∃ l, l = H.items r := ⟨_, rfl⟩
  have hkx := HeapM.rowB_kind hr
  have e3 : (r.kind == 3) = false := by have := H.kind_ref r (by omega); simp [this]
  have e1 : (r.kind == 2) = false := by have := H.kind_ref r (by omega); simp [this]
  have e2 : (m.kind != 2) = false := by simp [hm]
  obtain ⟨kx, hK⟩ : ∃ k, k = H.kind r := ⟨_, rfl⟩
  have hok : okI kx := by rw [hK]; exact H.okKind r
  rw [← hX1] at hl
  have HX := Lib.hid hX1
  have HK := Lib.hid hK
  have HR := Lib.hid hr
  have hgx : X1.length ≤ N := by rw [hX1]; exact G.items r
  have hxb : (X1.length : Int) ≤ 9223372036854775807 := by omega
  have HB : Hid (1 ≤ kx ∧ kx ≤ 12) := Lib.hid (by rw [hK]; omega)
  have HLL := Lib.hid hl
  have HGX := Lib.hid hgx
  obtain ⟨z0, hz0⟩ : ∃ z, z = m.n := ⟨_, rfl⟩
  have HZ0 := Lib.hid hz0
  have hzb := okI_range m.hn
  rw [← hz0] at hzb
  have HZB := Lib.hid hzb
  clear hX1 hK hr hkx hm hl hz0 hzb
  obtain ⟨b, hb⟩ : ∃ gx_, (W.heap.size) = gx_ := ⟨_, rfl⟩
  replace S := ((((S.alloc (.cells #[.int .i64 r.kind, .int .i64 r.n, .string r.s] 29)).alloc (.cells #[.int .i64 m.kind, .int .i64 m.n, .string m.s] 29)).alloc (.cells #[.int .i64 0, .int .i64 0, .string ⟨#[]⟩] 29)).alloc (.cells #[.string ⟨#[]⟩, .int .i64 0, .int .i64 0, .string ⟨#[]⟩, .bool false] 38))
  simp only [World.size_alloc, hb] at S
  replace S : Sep w (boxE (b + 1 + 1 + 1) :: boxZ (b + 1 + 1) :: boxV (b + 1) m :: boxV b r :: Rs) ((((W.alloc (.cells #[.int .i64 r.kind, .int .i64 r.n, .string r.s] 29)).alloc (.cells #[.int .i64 m.kind, .int .i64 m.n, .string m.s] 29)).alloc (.cells #[.int .i64 0, .int .i64 0, .string ⟨#[]⟩] 29)).alloc (.cells #[.string ⟨#[]⟩, .int .i64 0, .int .i64 0, .string ⟨#[]⟩, .bool false] 38)) := S
  obtain ⟨Rt, hRt⟩ : ∃ l, l = Rs.eraseIdx i := ⟨_, rfl⟩
  have HF : Hid (∀ H' W', Sep w (heapR h H' :: Rt) W' → Sep w (Rs.set i (heapR h H')) W') := Lib.hid fun H' W' T => by rw [hRt] at T; exact T.perm (perm_push hi).symm
  obtain ⟨bA, hbs⟩ : ∃ l, l = Rt := ⟨_, rfl⟩
  have HBS := Lib.hid hbs
  replace S : Sep w ([boxE (b + 1 + 1 + 1), boxZ (b + 1 + 1), boxV (b + 1) m, boxV b r, heapR h H] ++ bA) ((((W.alloc (.cells #[.int .i64 r.kind, .int .i64 r.n, .string r.s] 29)).alloc (.cells #[.int .i64 m.kind, .int .i64 m.n, .string m.s] 29)).alloc (.cells #[.int .i64 0, .int .i64 0, .string ⟨#[]⟩] 29)).alloc (.cells #[.string ⟨#[]⟩, .int .i64 0, .int .i64 0, .string ⟨#[]⟩, .bool false] 38)) := by
    rw [hbs]
    refine (show Sep w ([boxE (b + 1 + 1 + 1), boxZ (b + 1 + 1), boxV (b + 1) m, boxV b r] ++ Rs) _ from S).perm ?_
    have e : Rs.Perm (heapR h H :: Rt) := by rw [hRt]; exact perm_pull hi
    refine (List.Perm.append_left _ e).trans ?_
    exact (show ([boxE (b + 1 + 1 + 1), boxZ (b + 1 + 1), boxV (b + 1) m, boxV b r] ++ ([heapR h H] ++ Rt)).Perm ([boxE (b + 1 + 1 + 1), boxZ (b + 1 + 1), boxV (b + 1) m, boxV b r, heapR h H] ++ ([] ++ Rt)) from by rw [← List.append_assoc, ← List.append_assoc]; exact List.Perm.append_right Rt (by exact perm_of [0, 1, 2, 3, 4] (by show (List.range' 0 5).Perm [0, 1, 2, 3, 4]; decide) (by rfl)))
  clear hRt
  clear hbs
  replace S := Lib.hid S
  go_enter Tryz.func54, Tryz.ntmps54
  go_upto_region 1 with fail
  try simp only [World.size_alloc, hb]
  clear hb
  refine regionL (E := [boxE (b + 1 + 1 + 1), boxZ (b + 1 + 1), boxV (b + 1) m, boxV b r, heapR h H]) (base := bA) S.out ?_
  clear S
  refine quietL ?_
  simp only [pu]
  refine detL _ [boxE (b + 1 + 1 + 1), boxZ (b + 1 + 1), boxV (b + 1) m, boxV b r, heapR h H] (h1 := fun Wx hSw => by (have hz := hSw.box (b := b) (o := objV r) 3 rfl; have z0 := cellAt hz 0 (v := .int .i64 r.kind) rfl; have z1 := cellAt hz 1 (v := .int .i64 r.n) rfl; have z2 := cellAt hz 2 (v := .string r.s) rfl; go_simp; exact ⟨rfl, hSw⟩)) (h2 := ?_)
  simp only [pu]
  refine quietL ?_
  simp only [pu]
  intro w1 S
  replace S := Lib.hid S
  go_upto_region 3 with fail
  refine regionL (E := [boxE (b + 1 + 1 + 1), boxZ (b + 1 + 1), boxV (b + 1) m, boxV b r, heapR h H]) (base := bA) S.out ?_
  clear S
  refine quietL ?_
  simp only [pu]
  refine detL _ [boxE (b + 1 + 1 + 1), boxZ (b + 1 + 1), boxV (b + 1) m, boxV b r, heapR h H] (h1 := fun Wx hSw => by (have hz := hSw.box (b := (b + 1)) (o := objV m) 2 rfl; have z0 := cellAt hz 0 (v := .int .i64 m.kind) rfl; have z1 := cellAt hz 1 (v := .int .i64 m.n) rfl; have z2 := cellAt hz 2 (v := .string m.s) rfl; go_simp; exact ⟨rfl, hSw⟩)) (h2 := ?_)
  simp only [pu]
  iterate 2 (refine quietL ?_; simp only [pu])
  intro w2 S
  replace S := Lib.hid S
  go_upto_region 5 with fail
  refine regionL (E := [boxE (b + 1 + 1 + 1), boxZ (b + 1 + 1), boxV (b + 1) m, boxV b r, heapR h H]) (base := bA) S.out ?_
  clear S
  refine quietL ?_
  simp only [pu]
  refine detL _ [boxE (b + 1 + 1 + 1), boxZ (b + 1 + 1), boxV (b + 1) m, boxV b r, heapR h H] (h1 := fun Wx hSw => by (have hz := hSw.box (b := b) (o := objV r) 3 rfl; have z0 := cellAt hz 0 (v := .int .i64 r.kind) rfl; have z1 := cellAt hz 1 (v := .int .i64 r.n) rfl; have z2 := cellAt hz 2 (v := .string r.s) rfl; go_simp; exact ⟨rfl, hSw⟩)) (h2 := ?_)
  simp only [pu]
  iterate 2 (refine quietL ?_; simp only [pu])
  intro w3 S
  replace S := Lib.hid S
  clear e1 e2 e3
  go_upto_region 7 with fail
  refine regionL (E := [boxE (b + 1 + 1 + 1), boxZ (b + 1 + 1), boxV (b + 1) m, boxV b r, heapR h H]) (base := bA) S.out ?_
  clear S
  refine quietL ?_
  simp only [pu]
  refine detL _ [boxE (b + 1 + 1 + 1), boxZ (b + 1 + 1), boxV (b + 1) m, boxV b r, heapR h H] (h1 := fun Wx hSw => by (have hz := hSw.box (b := b) (o := objV r) 3 rfl; have z0 := cellAt hz 0 (v := .int .i64 r.kind) rfl; have z1 := cellAt hz 1 (v := .int .i64 r.n) rfl; have z2 := cellAt hz 2 (v := .string r.s) rfl; go_simp; exact ⟨rfl, hSw⟩)) (h2 := ?_)
  simp only [pu]
  refine detL (.bool true) [boxE (b + 1 + 1 + 1), boxZ (b + 1 + 1), boxV (b + 1) m, boxV b r, heapR h H] (h1 := fun Wx hSw => by (go_simp; refine symCall ?_; exact row_ok hSw 4 rfl r true HR.out)) (h2 := ?_)
  simp only [pu]
  iterate 2 (refine quietL ?_; simp only [pu])
  intro w4 S
  replace S := Lib.hid S
  go_upto_region 9 with fail
  refine regionL (E := [emptyR, boxE (b + 1 + 1 + 1), boxZ (b + 1 + 1), boxV (b + 1) m, boxV b r, heapR h H]) (base := bA) (Sep.putE S.out) ?_
  clear S
  refine quietL ?_
  simp only [pu]
  refine detL _ [emptyR, boxE (b + 1 + 1 + 1), boxZ (b + 1 + 1), boxV (b + 1) m, boxV b r, heapR h H] (h1 := fun Wx hSw => by (have hz := hSw.box (b := b) (o := objV r) 4 rfl; have z0 := cellAt hz 0 (v := .int .i64 r.kind) rfl; have z1 := cellAt hz 1 (v := .int .i64 r.n) rfl; have z2 := cellAt hz 2 (v := .string r.s) rfl; go_simp; exact ⟨rfl, hSw⟩)) (h2 := ?_)
  simp only [pu]
  refine stepL (fun v E1 => ∃ (a2 : Option Addr) (c2 : Nat), v = .slice a2 X1.length c2 ∧ E1 = [valsR (.slice a2 X1.length c2) X1, boxE (b + 1 + 1 + 1), boxZ (b + 1 + 1), boxV (b + 1) m, boxV b r, heapR h H]) (h1 := fun Wx hSw => by (go_simp; refine symCallN ?_; have hh := opi_items hSw 5 rfl G (by omega) r; rw [← HX.out] at hh; exact hh.mono fun e W' ⟨a, c, e1, e2⟩ => ⟨_, _, e1, ⟨a, c, rfl, rfl⟩, e2.into 0 rfl⟩)) (h2 := fun v E1 hvE => ?_)
  obtain ⟨a2, c2, rfl, rfl⟩ := hvE
  simp only [pu]
  refine quietL ?_
  simp only [pu]
  intro w5 S
  replace S := Lib.hid S
  go_upto_region 11 with fail
  refine regionL (E := [valsR (.slice a2 X1.length c2) X1, boxE (b + 1 + 1 + 1), boxZ (b + 1 + 1), boxV (b + 1) m, boxV b r, heapR h H]) (base := bA) S.out ?_
  clear S
  refine quietL ?_
  simp only [pu]
  refine detL _ [valsR (.slice a2 X1.length c2) X1, boxE (b + 1 + 1 + 1), boxZ (b + 1 + 1), boxV (b + 1) m, boxV b r, heapR h H] (h1 := fun Wx hSw => by (have hz := hSw.box (b := (b + 1)) (o := objV m) 3 rfl; have z0 := cellAt hz 0 (v := .int .i64 m.kind) rfl; have z1 := cellAt hz 1 (v := .int .i64 m.n) rfl; have z2 := cellAt hz 2 (v := .string m.s) rfl; go_simp; exact ⟨rfl, hSw⟩)) (h2 := ?_)
  simp only [pu]
  refine quietL ?_
  simp only [pu]
  intro w6 S
  replace S := Lib.hid S
  replace S := Lib.hid S.out.nilV
  rw [← HZ0.out]
  go_wp2
  go_loopw [9, 10] (fun s9 s10 wr => ∃ (c L : Nat) (z : Int) (a : Option Addr) (cp : Nat), Hid (c ≤ z0.toNat ∧ z = z0 - c ∧ (repl c X1).length = L ∧ (c = 0 ∨ L ≤ 4096 + X1.length)) ∧ s9 = .slice a L cp ∧ s10 = .int .i64 z ∧ Sep w ([valsR (.slice a L cp) (repl c X1), valsR (.slice a2 X1.length c2) X1, boxE (b + 1 + 1 + 1), boxZ (b + 1 + 1), boxV (b + 1) m, boxV b r, heapR h H] ++ bA) wr) (fun _ s10 _ => (intOf s10).toNat)
  case atStart => exact ⟨0, 0, z0, none, 0, Lib.hid ⟨by omega, by simp, rfl, .inl rfl⟩, rfl, rfl, S.out⟩
  case round =>
    obtain ⟨c, L, z, a, cp, HI, rfl, rfl, S⟩ := hrel
    replace S := Lib.hid S
    by_cases hgo : 0 < z ∧ 0 < X1.length ∧ L ≤ 4096
    ·
      obtain ⟨g1, g2, g3⟩ := hgo
      have q2 : (0 : Int) < X1.length := by omega
      have q3 : (L : Int) ≤ 4096 := by omega
      have hw : IntKind.i64.wrap (z - 1) = z - 1 := IntWalk.i64_in _ (by have := HI.out.2.1; have := HZB.out; omega)
      obtain ⟨L2, hL2⟩ : ∃ L2, L + X1.length = L2 := ⟨_, rfl⟩
      have HL2 := Lib.hid hL2
      have HG := Lib.hid (And.intro g1 g3)
      clear hL2
      go_upto_region 14 with fail
      refine regionL (E := [valsR (.slice a L cp) (repl c X1), valsR (.slice a2 X1.length c2) X1, boxE (b + 1 + 1 + 1), boxZ (b + 1 + 1), boxV (b + 1) m, boxV b r, heapR h H]) (base := bA) S.out ?_
      clear S
      iterate 2 (refine quietL ?_; simp only [pu])
      refine stepL (fun v E1 => ∃ (va1 : Option Addr) (vc1 : Nat), v = .slice va1 L2 vc1 ∧ E1 = [valsR (.slice va1 L2 vc1) (repl c X1 ++ X1), valsR (.slice a2 X1.length c2) X1, boxE (b + 1 + 1 + 1), boxZ (b + 1 + 1), boxV (b + 1) m, boxV b r, heapR h H]) (h1 := fun Wx hSw => by (obtain ⟨va, vc, w2, hr, S2⟩ := hSw.appendV 0 rfl HI.out.2.2.1 (hSw.seesV 1 rfl) L2 HL2.out (by have := HL2.out; have := HG.out.2; have := HGX.out; omega); exact symAppend _ _ _ _ rfl _ _ rfl rfl hr ⟨_, ⟨va, vc, rfl, rfl⟩, S2⟩)) (h2 := fun v E1 hvE => ?_)
      obtain ⟨va1, vc1, rfl, rfl⟩ := hvE
      simp only [pu]
      refine quietL ?_
      simp only [pu]
      intro w7 S
      replace S := Lib.hid S
      clear g2 g3 q2 q3
      go_wp2
      exact ⟨⟨c + 1, L2, z - 1, _, _, Lib.hid ⟨by have := HI.out.2.1; have := HG.out.1; omega, by have := HI.out.2.1; omega, by rw [repl, List.length_append, HI.out.2.2.1]; exact HL2.out, .inr (by have := HL2.out; have := HG.out.2; omega)⟩, rfl, rfl, S.out⟩, by have := HG.out.1; simp [intOf]; omega⟩
    ·
      have hex : 4096 < L ∧ (¬ 0 < z ∨ (0 < z ∧ (0 : Int) < X1.length ∧ ¬ (L : Int) ≤ 4096)) := by
        have hi := HI.out; have hll := HLL.out; rw [← HZ0.out] at hll
        by_cases g1 : 0 < z
        · have g2 : 0 < X1.length := by
            rcases Nat.eq_zero_or_pos X1.length with e | e
            · rw [e] at hll; simp at hll
            · exact e
          have g3 : ¬ L ≤ 4096 := fun e => hgo ⟨g1, g2, e⟩
          exact ⟨by omega, .inr ⟨g1, by omega, by omega⟩⟩
        · have e : c = z0.toNat := by omega
          subst e
          exact ⟨by rw [← hi.2.2.1, repl_len]; exact hll, .inl g1⟩
      obtain ⟨hL, hw⟩ := hex
      have HL := Lib.hid hL
      have HLN := Lib.hid HI.out.2.2.1
      clear hL hgo HI
      rcases hw with g1 | ⟨g1, g2, g3⟩
      all_goals (
        go_upto_region 15 with fail
        refine regionL (E := [valsR (.slice a L cp) (repl c X1), valsR (.slice a2 X1.length c2) X1, boxE (b + 1 + 1 + 1), boxZ (b + 1 + 1), boxV (b + 1) m, boxV b r, heapR h H]) (base := bA) S.out ?_
        clear S
        iterate 2 (refine quietL ?_; simp only [pu])
        refine detL _ [valsR (.slice a L cp) (repl c X1), valsR (.slice a2 X1.length c2) X1, boxE (b + 1 + 1 + 1), boxZ (b + 1 + 1), boxV (b + 1) m, boxV b r, heapR h H] (h1 := fun Wx hSw => by (have hz := hSw.box (b := b) (o := objV r) 5 rfl; have z0 := cellAt hz 0 (v := .int .i64 r.kind) rfl; have z1 := cellAt hz 1 (v := .int .i64 r.n) rfl; have z2 := cellAt hz 2 (v := .string r.s) rfl; go_simp; exact ⟨rfl, hSw⟩)) (h2 := ?_)
        simp only [pu]
        refine detL (.int .i64 kx) [valsR (.slice a L cp) (repl c X1), valsR (.slice a2 X1.length c2) X1, boxE (b + 1 + 1 + 1), boxZ (b + 1 + 1), boxV (b + 1) m, boxV b r, heapR h H] (h1 := fun Wx hSw => by (go_simp; refine symCall ?_; exact kind_at hSw 6 rfl r kx HK.out.symm)) (h2 := ?_)
        simp only [pu]
        refine quietL ?_
        simp only [pu]
        refine detL (.tuple #[zeroV, excN memoryError]) [valsR (.slice a L cp) (repl c X1), valsR (.slice a2 X1.length c2) X1, boxE (b + 1 + 1 + 1), boxZ (b + 1 + 1), boxV (b + 1) m, boxV b r, heapR h H] (h1 := fun Wx hSw => by (go_simp; refine symCall ?_; exact fresh_no hSw kx a L cp HL.out)) (h2 := ?_)
        simp only [pu]
        iterate 2 (refine quietL ?_; simp only [pu])
        refine detL undef [valsR (.slice a L cp) (repl c X1), valsR (.slice a2 X1.length c2) X1, boxE (b + 1 + 1 + 1), boxZ (b + 1 + 1), boxV (b + 1) m, boxV b r, heapR h H] (h1 := fun Wx hSw => by (have hz := hSw.box (b := (b + 1 + 1)) (o := objZ) 3 rfl; refine useZ3 hz fun z0 z1 z2 y0 y1 y2 => ?_; go_simp; exact ⟨rfl, hSw.set3 3 rfl (.int .i64 0) (.int .i64 0) (.string ⟨#[]⟩)⟩)) (h2 := ?_)
        simp only [pu]
        refine detL undef [valsR (.slice a L cp) (repl c X1), valsR (.slice a2 X1.length c2) X1, boxN (b + 1 + 1 + 1) memoryError, boxZ (b + 1 + 1), boxV (b + 1) m, boxV b r, heapR h H] (h1 := fun Wx hSw => by (have hz := hSw.box (b := (b + 1 + 1 + 1)) (o := objE) 2 rfl; refine useZ5 hz fun z0 z1 z2 z3 z4 y0 y1 y2 y3 y4 => ?_; go_simp; exact ⟨rfl, hSw.set5 2 rfl (.string memoryError) (.int .i64 0) (.int .i64 0) (.string ⟨#[]⟩) (.bool false)⟩)) (h2 := ?_)
        simp only [pu]
        intro w51 S
        replace S := Lib.hid S
        replace S := S.out
        refine useR3 (S.box (b := b + 1 + 1) (o := objZ) 3 rfl) fun r0 r1 r2 => ?_
        refine useR5 (S.box (b := b + 1 + 1 + 1) (o := objN memoryError) 2 rfl) fun r3 r4 r5 r6 r7 => ?_
        replace S := Lib.hid S
        go_wp2
        refine bodyPost_ret (v := .tuple #[.agg #[.int .i64 0, .int .i64 0, .string ⟨#[]⟩], .agg #[.string memoryError, .int .i64 0, .int .i64 0, .string ⟨#[]⟩, .bool false]]) (by simp [results, Tryz.results54, go_sem, r0, r1, r2, r3, r4, r5, r6, r7]) rfl ⟨rfl, ?_⟩
        replace S := S.out
        rw [HBS.out] at S
        have hX1 := HX.out
        have hK := HK.out
        have hZ := HZ0.out
        subst hX1 hK hZ
        iterate 6 replace S := S.tail
        have hs := HF.out _ _ S
        rwa [set_same hi] at hs
      )
theorem bin_add_row (S : Sep w Rs W) (i : Nat) (hi : Rs[i]? = some (heapR h H)) {N : Nat} (G : H.Good N) (hN : N + 1 ≤ 4000000) (x y : V) (hx : H.rowB x = true) (hk : H.kind x = H.kind y) (hl : (H.items x).length + (H.items y).length ≤ 4096) : Calls Tryz.prog 23 #[.pointer (some ⟨h, 0, none⟩), .string ⟨#[43]⟩, .agg #[.int .i64 x.kind, .int .i64 x.n, .string x.s], .agg #[.int .i64 y.kind, .int .i64 y.n, .string y.s]] W fun e W' => e = .returned (.tuple #[.agg #[.int .i64 4, .int .i64 (H.last + 1), .string ⟨#[]⟩], excZ]) ∧ Sep w (Rs.set i (heapR h (H.add (rowO (H.kind x) (H.okKind x) (H.items x ++ H.items y))))) W' := by
  refine bin_add S ⟨#[43]⟩ (by decide) x y (fun e => by have a := HeapM.rowB_kind hx; have b := H.kind_ref x (by omega); omega) rfl 4 (H.last + 1) ⟨#[]⟩ ⟨#[]⟩ (fun Q W T => (add_row T (Q.length + i) (by rw [List.getElem?_append_right (by omega), Nat.add_sub_cancel_left]; exact hi) G hN x y hx hk hl).mono (fun e W' hh => ⟨hh.1, by have q := hh.2; rwa [List.set_append_right _ _ (by omega), Nat.add_sub_cancel_left] at q⟩))
theorem bin_add_no (S : Sep w Rs W) (i : Nat) (hi : Rs[i]? = some (heapR h H)) {N : Nat} (G : H.Good N) (hN : N + 1 ≤ 4000000) (x y : V) (hx : H.rowB x = true) (hk : H.kind x = H.kind y) (hl : 4096 < (H.items x).length + (H.items y).length) : Calls Tryz.prog 23 #[.pointer (some ⟨h, 0, none⟩), .string ⟨#[43]⟩, .agg #[.int .i64 x.kind, .int .i64 x.n, .string x.s], .agg #[.int .i64 y.kind, .int .i64 y.n, .string y.s]] W fun e W' => e = .returned (.tuple #[zeroV, excN memoryError]) ∧ Sep w Rs W' := by
  refine bin_add S ⟨#[43]⟩ (by decide) x y (fun e => by have a := HeapM.rowB_kind hx; have b := H.kind_ref x (by omega); omega) rfl 0 0 ⟨#[]⟩ memoryError (fun Q W T => add_row_no T (Q.length + i) (by rw [List.getElem?_append_right (by omega), Nat.add_sub_cancel_left]; exact hi) G hN x y hx hk hl)
theorem bin_mul_row (S : Sep w Rs W) (i : Nat) (hi : Rs[i]? = some (heapR h H)) {N : Nat} (G : H.Good N) (hN : N + 1 ≤ 4000000) (r m : V) (hr : H.rowB r = true) (hm : m.kind = 2) (hl : m.n.toNat * (H.items r).length ≤ 4096) : Calls Tryz.prog 23 #[.pointer (some ⟨h, 0, none⟩), .string ⟨#[42]⟩, .agg #[.int .i64 r.kind, .int .i64 r.n, .string r.s], .agg #[.int .i64 m.kind, .int .i64 m.n, .string m.s]] W fun e W' => e = .returned (.tuple #[.agg #[.int .i64 4, .int .i64 (H.last + 1), .string ⟨#[]⟩], excZ]) ∧ Sep w (Rs.set i (heapR h (H.add (rowO (H.kind r) (H.okKind r) (repl m.n.toNat (H.items r)))))) W' := by
  refine bin_mul S ⟨#[42]⟩ (by decide) r m (fun e => by have a := HeapM.rowB_kind hr; have b := H.kind_ref r (by omega); omega) rfl 4 (H.last + 1) ⟨#[]⟩ ⟨#[]⟩ (fun Q W T => (mul_row T (Q.length + i) (by rw [List.getElem?_append_right (by omega), Nat.add_sub_cancel_left]; exact hi) G hN r m hr hm hl).mono (fun e W' hh => ⟨hh.1, by have q := hh.2; rwa [List.set_append_right _ _ (by omega), Nat.add_sub_cancel_left] at q⟩))
theorem bin_mul_row_no (S : Sep w Rs W) (i : Nat) (hi : Rs[i]? = some (heapR h H)) {N : Nat} (G : H.Good N) (hN : N + 1 ≤ 4000000) (r m : V) (hr : H.rowB r = true) (hm : m.kind = 2) (hl : 4096 < m.n.toNat * (H.items r).length) : Calls Tryz.prog 23 #[.pointer (some ⟨h, 0, none⟩), .string ⟨#[42]⟩, .agg #[.int .i64 r.kind, .int .i64 r.n, .string r.s], .agg #[.int .i64 m.kind, .int .i64 m.n, .string m.s]] W fun e W' => e = .returned (.tuple #[zeroV, excN memoryError]) ∧ Sep w Rs W' := by
  refine bin_mul S ⟨#[42]⟩ (by decide) r m (fun e => by have a := HeapM.rowB_kind hr; have b := H.kind_ref r (by omega); omega) rfl 0 0 ⟨#[]⟩ memoryError (fun Q W T => mul_row_no T (Q.length + i) (by rw [List.getElem?_append_right (by omega), Nat.add_sub_cancel_left]; exact hi) G hN r m hr hm hl)
end
end Go.Proofs.YtellmfimmghidaaGreat
