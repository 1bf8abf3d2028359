import Derived.Test.YtijlebhoapdfnaaGreatHeapF
/- The document's example, plainly. -/
set_option maxRecDepth 100000
set_option maxHeartbeats 1600000
namespace Go.Proofs.YtijlebhoapdfnaaGreat
set_option linter.unusedSimpArgs false
open Go.RowKit
set_option linter.unusedVariables false
namespace K
def a : V := V.ref 1 (by decide)
def b : V := V.ref 2 (by decide)
def c : V := V.ref 3 (by decide)
def x : V := ⟨3, 0, ⟨#[120]⟩, by decide, by decide, by decide⟩
def oA : ObjM := ⟨1, ⟨#[]⟩, 0, [], [], by decide, by decide, by decide⟩
def oB : ObjM := ⟨1, ⟨#[]⟩, 0, [a, a], [], by decide, by decide, by decide⟩
def oC : ObjM := ⟨6, ⟨#[99]⟩, 7, [], [], by decide, by decide, by decide⟩
def oD : ObjM := ⟨6, ⟨#[99]⟩, 7, [], [(x, c)], by decide, by decide, by decide⟩
def H0 : HeapM := ⟨[], 0⟩
def H1 : HeapM := ⟨[(1, oA)], 1⟩
def H2 : HeapM := ⟨[(1, oA), (2, oB)], 2⟩
def H3 : HeapM := ⟨[(1, oA), (2, oB), (3, oC)], 3⟩
def H4 : HeapM := ⟨[(1, oA), (2, oB), (3, oD)], 3⟩
def H6 : HeapM := ⟨[(3, oD)], 3⟩
def H7 : HeapM := ⟨[], 3⟩
theorem e1 : H0.add oA = H1 := rfl
theorem e2 : H1.add oB = H2 := rfl
theorem e3 : H2.add oC = H3 := rfl
theorem g3 : getL H3.objs 3 = some oC := rfl
theorem key_x : x.isKey = true := by decide +kernel
theorem p1 : putOk ([] : List (V × V)) x = true := by simp [putOk, getL, key_x]
theorem p2 : H3.canPut c x = true := by
 have : H3.of c = some oC := rfl
 simp only [HeapM.canPut, this]; exact p1
theorem e4 : H3.put c x c = H4 := by
 have h1 : H3.of c = some oC := rfl
 have h2 : putOk oC.pairs x = true := p1
 simp only [HeapM.put, h1, h2, if_true]
 rfl
theorem n1 : H4.count a = 2 := by decide +kernel
theorem n2 : H4.count c = 1 := by decide +kernel
theorem r1 : H4.refNs b = [1, 1] := by rfl
theorem m1 : H6.name c = ⟨#[99]⟩ := rfl
theorem f1 : H6.freed [3, 3, 9] = 1 := by rfl
theorem f2 : H6.freeAll [3, 3, 9] = H7 := by rfl
theorem k1 : H7.kind c = 0 := rfl
theorem l1 : H7.live 0 = 0 := rfl
theorem cases4 {n : Int} {o : ObjM} (h : getL H4.objs n = some o) : (n = 1 ∧ o = oA) ∨ (n = 2 ∧ o = oB) ∨ (n = 3 ∧ o = oD) := by
 have := getL_mem h
 simp [H4] at this
 exact this
theorem s1 : H4.sweep [b] = H4 := by
 have hs : Sup H4 [b] (fun n => n = 1 ∨ n = 2 ∨ n = 3) := by
  intro n hn
  rcases hn with rfl | rfl | rfl
  ·
   exact ⟨rfl, .inr ⟨2, oB, by simp, rfl, by decide +kernel⟩⟩
  ·
   exact ⟨rfl, .inl (by decide +kernel)⟩
  ·
   exact ⟨rfl, .inr ⟨3, oD, by simp, rfl, by decide +kernel⟩⟩
 have k1 : Kept H4 [b] 1 := ⟨_, hs, by simp⟩
 have k2 : Kept H4 [b] 2 := ⟨_, hs, by simp⟩
 have k3 : Kept H4 [b] 3 := ⟨_, hs, by simp⟩
 have : H4.objs.filter (fun p => @decide (Kept H4 [b] p.1) (Classical.propDecidable _)) = H4.objs := by
  refine List.filter_eq_self.2 fun p hp => ?_
  simp [H4] at hp
  rcases hp with rfl | rfl | rfl
  ·
   simpa using k1
  ·
   simpa using k2
  ·
   simpa using k3
 unfold HeapM.sweep
 rw [this]
theorem s2 : H4.sweep [] = H6 := by
 have k3 : Kept H4 [] 3 := ⟨fun n => n = 3, fun n hn => by subst hn; exact ⟨rfl, .inr ⟨3, oD, rfl, rfl, by decide +kernel⟩⟩, rfl⟩
 have h2 : ∀ S, Sup H4 [] S → ¬ S 2 := by
  intro S hS h
  rcases (hS 2 h).2 with h1 | ⟨m, o, hm, ho, hc⟩
  ·
   simp [cnt_nil] at h1
  ·
   rcases cases4 ho with ⟨rfl, rfl⟩ | ⟨rfl, rfl⟩ | ⟨rfl, rfl⟩
   ·
    have : cnt oA.vals 2 = 0 := by decide +kernel
    omega
   ·
    have : cnt oB.vals 2 = 0 := by decide +kernel
    omega
   ·
    have : cnt oD.vals 2 = 0 := by decide +kernel
    omega
 have k2 : ¬ Kept H4 [] 2 := fun ⟨S, hS, h⟩ => h2 S hS h
 have k1 : ¬ Kept H4 [] 1 := fun ⟨S, hS, h⟩ => by
  rcases (hS 1 h).2 with h1 | ⟨m, o, hm, ho, hc⟩
  ·
   simp [cnt_nil] at h1
  ·
   rcases cases4 ho with ⟨rfl, rfl⟩ | ⟨rfl, rfl⟩ | ⟨rfl, rfl⟩
   ·
    have : cnt oA.vals 1 = 0 := by decide +kernel
    omega
   ·
    exact h2 S hS hm
   ·
    have : cnt oD.vals 1 = 0 := by decide +kernel
    omega
 have : H4.objs.filter (fun p => @decide (Kept H4 [] p.1) (Classical.propDecidable _)) = [(3, oD)] := by
  simp [H4, List.filter_cons] at k1 k2 k3 ⊢
  simp [k1, k2, k3]
 unfold HeapM.sweep
 rw [this]; rfl
theorem g0 : H0.Good 0 := good_empty
end K
end Go.Proofs.YtijlebhoapdfnaaGreat
/- The document's example: the walk. -/
namespace Go.Proofs.YtijlebhoapdfnaaGreat
set_option linter.unusedSimpArgs false
open Go.RowKit
set_option linter.unusedVariables false
theorem HAt.lt {w W : World} {h : Nat} {H : HeapM} {L : List (Nat × Obj)} (A : HAt w h H L W) : ∀ p ∈ L, p.1 < W.heap.size := fun p hp => blockLt (A.box hp)
theorem SeesN.of_slIs {w : World} {sv : Value} {l : List Int} (h : slIs w 2 1 intCell sv l) : SeesN w sv l := by
 rcases h.shape with ⟨h1, h2⟩ | ⟨g, c, h1, h2, h3, h4⟩
 ·
  subst h1; subst h2; exact ⟨none, 0, rfl, by simp, by simp, .inl rfl⟩
 ·
  subst h1
  refine ⟨_, c, rfl, h2, h3, .inr ⟨g, 0, rfl, fun i n hi => ?_⟩⟩
  have := h.cell intCell_len rfl hi (j := 0) rfl
  simpa using this
def SameRel (w : World) (l m : List Int) (k : Nat) (wr : World) : Prop := l.take k = m.take k ∧ ∃ n, wr = w.drewN n
theorem SameRel.later {w wr : World} {l m : List Int} {k : Nat} (h : SameRel w l m k wr) (n : Nat) : SameRel w l m k (wr.drewN n) := by
 obtain ⟨h1, j, rfl⟩ := h; exact ⟨h1, _, World.drewN_drewN w j n⟩
/-- Two rows of numbers: are they the same? -/
theorem same_numbers (w : World) (s t : Value) (l m : List Int) (hs : SeesN w s l) (ht : SeesN w t m) (hk : (∀ n ∈ l, okI n) ∧ ∀ n ∈ m, okI n) :
  Calls Tryz.prog 68 #[s, t] w fun e w' => e = .returned (.bool (decide (l = m))) ∧ ∃ n, w' = w.drewN n := by
 obtain ⟨a, ac, rfl, a1, a2, a3⟩ := hs
 obtain ⟨b, bc, rfl, b1, b2, b3⟩ := ht
 have ha : (l.length : Int) ≤ 9223372036854775807 := by unfold maxLen at a2; omega
 have hb : (m.length : Int) ≤ 9223372036854775807 := by unfold maxLen at b2; omega
 have HA := Lib.hid a3
 have HB := Lib.hid b3
 clear a1 a2 a3 b1 b2 b3 hk
 by_cases hlen : l.length = m.length
 ·
  have hne : (((l.length : Int)) != (m.length : Int)) = false := by simp [hlen]
  have HL := Lib.hid hlen
  clear hlen
  go_enter Tryz.func68, Tryz.ntmps68
  go_wp2
  go_loopw [5] (fun i wr => ∃ k : Nat, k ≤ l.length ∧ i = .int .i64 k ∧ SameRel w l m k wr) (fun i _ => l.length - (intOf i).toNat)
  case atStart => exact ⟨0, by omega, rfl, by simp, 0, rfl⟩
  case round =>
   obtain ⟨k, hk, rfl, hkm, nd, rfl⟩ := hrel
   by_cases hlt : k < l.length
   ·
    obtain ⟨x, hx⟩ : ∃ x, l[k]? = some x := ⟨l[k], by simp [hlt]⟩
    obtain ⟨y, hy⟩ : ∃ y, m[k]? = some y := ⟨m[k]'(by have := HL.out; omega), by simp⟩
    obtain ⟨g, o, rfl, hc⟩ : ∃ g o, a = some ⟨g, o, none⟩ ∧ ∀ i n, l[i]? = some n → w.cell? ⟨g, o + i, none⟩ = some (.int .i64 n) := by
     rcases HA.out with h | h
     ·
      subst h; simp at hlt
     ·
      exact h
    obtain ⟨g', o', rfl, hc'⟩ : ∃ g o, b = some ⟨g, o, none⟩ ∧ ∀ i n, m[i]? = some n → w.cell? ⟨g, o + i, none⟩ = some (.int .i64 n) := by
     rcases HB.out with h | h
     ·
      subst h; simp at hy
     ·
      exact h
    have c1 : (w.drewN nd).cell? ⟨g, o + k, none⟩ = some (.int .i64 x) := (World.cell?_drewN w nd _).trans (hc k x hx)
    have c2 : (w.drewN nd).cell? ⟨g', o' + k, none⟩ = some (.int .i64 y) := (World.cell?_drewN w nd _).trans (hc' k y hy)
    have hil : (k : Int) < l.length := by omega
    have hil2 : (k : Int) < m.length := by have := HL.out; omega
    obtain ⟨wx, hwx⟩ : ∃ wx, w.drewN nd = wx := ⟨_, rfl⟩
    rw [hwx] at c1 c2 ⊢
    have HWX := Lib.hid hwx
    have HKM := Lib.hid hkm
    by_cases hxy : x = y
    ·
     have hb1 : (x != y) = false := by simp [hxy]
     have HST : Hid (SameRel w l m (k + 1) wx) := by
      have h1 : l.take (k + 1) = m.take (k + 1) := by rw [List.take_add_one, List.take_add_one, hkm, hx, hy, hxy]
      exact ⟨h1, nd, HWX.out.symm⟩
     clear hxy hx hy hc hc' hkm hwx
     go_wp2
     go_quiet (fail)
     go_wp2
     refine ⟨⟨k + 1, by omega, by go_num, HST.out.later _⟩, by simp [intOf]; omega⟩
    ·
     have hb1 : (x != y) = true := by simpa using hxy
     have HNE := Lib.hid (show decide (l = m) = false by
      simp only [decide_eq_false_iff_not]; intro e; rw [e, hy] at hx; exact hxy (Option.some.inj hx).symm)
     clear hxy hx hy hc hc' hkm hwx
     go_wp2
     go_quiet (fail)
     go_wp2
     go_ret
     rw [HNE.out]
     rename_i nq _
     exact ⟨rfl, _, by rw [← HWX.out, World.drewN_drewN]⟩
   ·
    have : k = l.length := by omega
    subst this
    have HEQ := Lib.hid (show decide (l = m) = true by
     simp only [decide_eq_true_eq]
     rw [List.take_length, HL.out, List.take_length] at hkm; exact hkm)
    clear hkm
    go_wp2
    go_ret
    rw [HEQ.out]
    exact ⟨rfl, _, rfl⟩
 ·
  have hne : (((l.length : Int)) != (m.length : Int)) = true := by simp; omega
  have HN := Lib.hid (show decide (l = m) = false by simp; intro e; exact hlen (by rw [e]))
  clear hlen
  go_enter Tryz.func68, Tryz.ntmps68
  go_wp2
  go_ret
  rw [HN.out]
  exact ⟨rfl, 0, rfl⟩
end Go.Proofs.YtijlebhoapdfnaaGreat
/- The document's example is as it says. -/
namespace Go.Proofs.YtijlebhoapdfnaaGreat
set_option linter.unusedSimpArgs false
open Go.RowKit
set_option linter.unusedVariables false
namespace K
theorem good1 : H1.Good 10 := ⟨⟨by decide, by decide, by decide⟩, by decide +kernel⟩
theorem good2 : H2.Good 10 := ⟨⟨by decide, by decide, by decide⟩, by decide +kernel⟩
end K
end Go.Proofs.YtijlebhoapdfnaaGreat
