/- The reference's heap: Free, Sweep. -/
import Derived.Test.YtoancpjlkhijiaaGreatRef5
namespace Go.Proofs.YtoancpjlkhijiaaGreat
set_option linter.unusedSimpArgs false
open Go.RowKit
set_option linter.unusedVariables false
theorem HeapM.Good.drop {H : HeapM} {N : Nat} (G : H.Good N) (n : Int) : (H.drop n).Good N := G.filter _ rfl rfl
section
variable {w W : World} {Rs : List Res} {r : Nat} {H : HeapM}
set_option maxRecDepth 100000 in
set_option maxHeartbeats 1600000 in
theorem ref_free (S : Sep w (refR r H :: Rs) W) {N : Nat} (G : H.Good N) (hN : N ≤ 4000000) (a : Option Addr) (c : Nat) (ns : List Int) (hs : ∀ (W1 : World) (H' : HeapM), Sep w (refR r H' :: Rs) W1 → SeesN W1 (.slice a ns.length c) ns) (hok : ∀ n ∈ ns, okI n) (hlen : ns.length ≤ 4000000) :
    Calls Tryz.prog 31 #[.pointer (some ⟨r, 0, none⟩), .slice a ns.length c] W fun e W' => e = .returned (.int .i64 (H.freed ns)) ∧ Sep w (refR r (H.freeAll ns) :: Rs) W' := by
  have HS := Lib.hid hs
  have HG := Lib.hid (And.intro G (And.intro hN (And.intro hok hlen)))
  have hli : (ns.length : Int) ≤ 4000000 := by omega
  have S0 := Lib.hid S
  have hfr : ∀ (l : List Int) (H : HeapM), H.freed l ≤ l.length := by
    intro l
    induction l with
    | nil => intro H; exact Nat.le_refl _
    | cons n l ih =>
      intro H
      have := ih (H.drop n)
      show (getL H.objs n).isSome.toNat + (H.drop n).freed l ≤ _
      have : (getL H.objs n).isSome.toNat ≤ 1 := Bool.toNat_le _
      simp; omega
  have HFR := Lib.hid hfr
  clear S hs G hN hok hlen hfr
  go_enter Tryz.func31, Tryz.ntmps31
  go_wp2
  go_loopw [5, 6] (fun n i wr => ∃ k : Nat, k ≤ ns.length ∧ i = .int .i64 k ∧ n = .int .i64 (H.freed (ns.take k) : Nat) ∧ Sep w (refR r (H.freeAll (ns.take k)) :: Rs) wr) (fun _ i _ => ns.length - (intOf i).toNat)
  case atStart => exact ⟨0, by omega, rfl, rfl, S0.out⟩
  case round =>
    clear S0
    obtain ⟨k, hk, rfl, rfl, S1⟩ := hrel
    by_cases hlt : k < ns.length
    · have hlti : (k : Int) < ns.length := by omega
      obtain ⟨n, hn⟩ : ∃ n, ns[k]? = some n := ⟨ns[k], by simp [hlt]⟩
      obtain ⟨a', c', e0, _, _, h5⟩ := HS.out wr _ S1
      obtain ⟨rfl, _, rfl⟩ := Value.slice.inj e0
      obtain ⟨g, o, rfl, hcell⟩ := h5.resolve_left (fun h => by rw [h] at hlt; simp at hlt)
      have cn := hcell k n hn
      have D := ref_drop S1 (HG.out.1.freeAll (ns.take k)) HG.out.2.1 n (HG.out.2.2.1 n (List.mem_of_getElem? hn))
      have h1 := H.freed_append (ns.take k) n
      have h2 : H.freeAll (ns.take k ++ [n]) = (H.freeAll (ns.take k)).drop n := by unfold HeapM.freeAll; rw [List.foldl_append]; rfl
      rw [show ns.take k ++ [n] = ns.take (k + 1) by rw [List.take_add_one, hn]; rfl] at h1 h2
      have h3 := HFR.out (ns.take k) H
      rw [← h2] at D
      obtain ⟨f, hf⟩ : ∃ f, H.freed (ns.take k) = f := ⟨_, rfl⟩
      rw [hf] at h1 h3 ⊢
      have hfi : (f : Int) + 1 ≤ 4000001 := by simp at h3; omega
      obtain ⟨b, hb⟩ : ∃ b, (getL (H.freeAll (ns.take k)).objs n).isSome = b := ⟨_, rfl⟩
      rw [hb] at D h1
      have HX := Lib.hid (And.intro h1 hlt)
      replace D := Lib.hid D
      clear S1 hcell h5 hn h1 h2 h3 hlt hf hb e0
      go_wp2_with fail
      refine D.out.mono ?_
      rintro e w2 ⟨rfl, S2⟩
      replace S2 := Lib.hid S2
      clear D cn
      cases b with
      | true =>
        go_wp2
        exact ⟨⟨k + 1, by have := HX.out.2; omega, by go_num, by rw [HX.out.1]; go_num, S2.out⟩, by have := HX.out.2; simp [intOf]; omega⟩
      | false =>
        go_wp2
        exact ⟨⟨k + 1, by have := HX.out.2; omega, by go_num, by rw [HX.out.1]; simp, S2.out⟩, by have := HX.out.2; simp [intOf]; omega⟩
    · have hlti : ¬ (k : Int) < ns.length := by omega
      rw [List.take_of_length_le (by omega)] at S1 ⊢
      have S2 := Lib.hid S1
      clear S1 hlt
      go_wp2
      go_ret
      exact ⟨rfl, S2.out⟩
end
theorem cnt_any (E : List V) (n : Int) : E.any (isRef n) = false ↔ cnt E n = 0 := by
  have h1 := cnt_pos (l := E) (n := n)
  have h2 := cnt_nonneg E n
  constructor
  · intro h
    refine Classical.byContradiction fun h3 => ?_
    obtain ⟨v, hv, k1, k2⟩ := h1.1 (by omega)
    rw [List.any_eq_false] at h
    exact h v hv (by simp [isRef, k1, k2])
  · intro h
    rw [List.any_eq_false]
    intro v hv hr
    simp only [isRef, Bool.and_eq_true, decide_eq_true_eq] at hr
    have := h1.2 ⟨v, hv, hr⟩
    omega
theorem looseB_iff {H : HeapM} (hn : (H.objs.map (·.1)).Nodup) (E : List V) {p : Int × ObjM} (hp : p ∈ H.objs) : looseB H E p = true ↔ isLoose H (cnt E) p.1 = true := by
  have h1 : (getL H.objs p.1).isSome = true := by rw [getL_of_mem hn hp]; rfl
  have h2 := cnt_nonneg (allVals H.objs) p.1
  have h3 := cnt_nonneg E p.1
  rw [isLoose_iff]
  unfold looseB
  rw [Bool.not_eq_true', Bool.or_eq_false_iff, cnt_any, decide_eq_false_iff_not]
  constructor
  · intro h; exact ⟨h1, by omega⟩
  · intro h; have := h.2; exact ⟨by omega, by omega⟩
theorem looseM_zero {H : HeapM} {N : Nat} (G : H.Good N) {E : List V} (h : H.looseM E = 0) : ∀ n, isLoose H (cnt E) n = false := by
  intro n
  cases hl : isLoose H (cnt E) n with
  | false => rfl
  | true =>
    exfalso
    obtain ⟨o, ho⟩ := Option.isSome_iff_exists.1 (isLoose_iff.1 hl).1
    have hm := getL_mem ho
    have hb := (looseB_iff G.ok.nk E hm).2 hl
    unfold HeapM.looseM at h
    cases hf : H.objs.find? (looseB H E) with
    | none => rw [List.find?_eq_none] at hf; exact hf _ hm (by simpa using hb)
    | some p =>
      rw [hf] at h
      have := (G.ok.pos p (List.mem_of_find?_eq_some hf)).1
      simp only at h
      omega
theorem looseM_some {H : HeapM} {N : Nat} (G : H.Good N) {E : List V} (h : H.looseM E ≠ 0) : isLoose H (cnt E) (H.looseM E) = true := by
  unfold HeapM.looseM at h ⊢
  cases hf : H.objs.find? (looseB H E) with
  | none => rw [hf] at h; exact absurd rfl h
  | some p =>
    exact (looseB_iff G.ok.nk E (List.mem_of_find?_eq_some hf)).1 (List.find?_some hf)
section
variable {w W : World} {Rs : List Res} {r : Nat} {H : HeapM}
set_option maxRecDepth 100000 in
set_option maxHeartbeats 1600000 in
theorem ref_sweep (S : Sep w (refR r H :: Rs) W) {N : Nat} (G : H.Good N) (hN : N ≤ 4000000) (a : Option Addr) (c : Nat) (E : List V) (hs : ∀ (W1 : World) (H' : HeapM), Sep w (refR r H' :: Rs) W1 → SeesV W1 (.slice a E.length c) E) (hE : E.length ≤ 4000000) :
    Calls Tryz.prog 30 #[.pointer (some ⟨r, 0, none⟩), .slice a E.length c] W fun e W' => (∃ f : Nat, e = .returned (.int .i64 f) ∧ f + (H.sweep E).objs.length = H.objs.length) ∧ Sep w (refR r (H.sweep E) :: Rs) W' := by
  have LO : Hid (∀ (W1 : World) (Hk : HeapM), Hk.Good N → Sep w (refR r Hk :: Rs) W1 → Calls Tryz.prog 68 #[.pointer (some ⟨r, 0, none⟩), .slice a E.length c] W1 fun e W' => e = .returned (.int .i64 (Hk.looseM E)) ∧ Sep w (refR r Hk :: Rs) W') := Lib.hid fun W1 Hk Gk T => by
    obtain ⟨F, h1, _⟩ := T.get 0 rfl
    obtain ⟨rows, sa, sc, R⟩ := h1.cells
    exact (ref_loose R Gk hN _ E (hs W1 Hk T) hE).mono fun e W' ⟨x1, x2⟩ => ⟨x1, T.later x2⟩
  have HG := Lib.hid (And.intro G hN)
  have HOL := Lib.hid (show H.objs.length ≤ 4000000 by have := G.len; omega)
  have S0 := Lib.hid S
  clear S hs G hN hE
  go_enter Tryz.func30, Tryz.ntmps30
  go_wp2_with fail
  refine (LO.out _ _ HG.out.1 S0.out).mono ?_
  rintro e w1 ⟨rfl, S1⟩
  replace S1 := Lib.hid S1
  clear S0
  go_wp2
  go_loopw [5, 6] (fun n x wr => ∃ (Hk : HeapM) (f : Nat), x = .int .i64 (Hk.looseM E) ∧ n = .int .i64 (f : Int) ∧ SwInv H E Hk f ∧ Hk.Good N ∧ Sep w (refR r Hk :: Rs) wr) (fun n _ _ => H.objs.length - (intOf n).toNat)
  case atStart => exact ⟨H, 0, rfl, rfl, SwInv.start E HG.out.1.ok.nk, HG.out.1, S1.out⟩
  case round =>
    clear S1
    obtain ⟨Hk, f, rfl, rfl, I, Gk, S2⟩ := hrel
    by_cases hz : Hk.looseM E = 0
    · have hd := I.done HG.out.1.ok.nk (looseM_zero Gk hz)
      have hfr := I.freed
      rw [hd] at hfr S2
      have HF := Lib.hid hfr
      have S3 := Lib.hid S2
      obtain ⟨x, hx⟩ : ∃ x, Hk.looseM E = x := ⟨_, rfl⟩
      rw [hx] at hz ⊢
      have hbq : (x == 0) = true := by simpa using hz
      clear I Gk S2 hd hfr hx hz
      go_wp2
      go_ret
      exact ⟨⟨f, rfl, HF.out⟩, S3.out⟩
    · have hl := looseM_some Gk hz
      have I2 := I.drop HG.out.1.ok.nk hl
      have hkey := (isLoose_iff.1 hl).1
      have hok : okI (Hk.looseM E) := (HeapM.keys_nums Gk).ok Gk HG.out.2 _ (by obtain ⟨o, ho⟩ := Option.isSome_iff_exists.1 hkey; exact List.mem_map.2 ⟨_, getL_mem ho, rfl⟩)
      have D := ref_drop S2 Gk HG.out.2 (Hk.looseM E) hok
      have G2 := Gk.drop (Hk.looseM E)
      have hfr := I2.freed
      obtain ⟨x, hx⟩ : ∃ x, Hk.looseM E = x := ⟨_, rfl⟩
      rw [hx] at hz D I2 G2 hfr ⊢
      have hbq : (x != 0) = true := by simpa using hz
      have hfi : (f : Int) + 1 ≤ 4000000 := by have := HOL.out; omega
      have hf2 : f + 1 ≤ H.objs.length := by omega
      obtain ⟨b, hb⟩ : ∃ b, (getL Hk.objs x).isSome = b := ⟨_, rfl⟩
      rw [hb] at D
      have HX := Lib.hid (And.intro I2 (And.intro G2 hf2))
      replace D := Lib.hid D
      clear I Gk S2 hl I2 hkey hok G2 hfr hx hb hf2
      go_wp2_with fail
      refine D.out.mono ?_
      rintro e w3 ⟨rfl, S4⟩
      have L2 := Lib.hid (LO.out _ _ HX.out.2.1 S4)
      clear D S4
      go_wp2_with fail
      refine L2.out.mono ?_
      rintro e w4 ⟨rfl, S5⟩
      replace S5 := Lib.hid S5
      clear L2
      go_wp2
      exact ⟨⟨Hk.drop x, f + 1, rfl, by go_num, HX.out.1, HX.out.2.1, S5.out⟩, by have := HX.out.2.2; simp [intOf]; omega⟩
end
end Go.Proofs.YtoancpjlkhijiaaGreat
