/- ch 16: Quote. -/
import Derived.Test.YtellmfimmghidaaGreatQuoA
import Derived.Test.YtellmfimmghidaaGreatRegI
import Derived.Lib.ConvBytes
namespace Go.Proofs.YtellmfimmghidaaGreat
set_option linter.unusedSimpArgs false
open Go.RowKit
set_option linter.unusedVariables false
theorem belowBytes (w : World) (e : TypeId) (s : ByteArray) : Below w.heap.size w (Lib.bytesWorld w e s) :=
  ⟨rfl, rfl, rfl, by rw [Lib.bytesWorld_size]; omega, fun k h => Lib.bytesWorld_at_old w e s k h⟩
section
variable {w W : World} {Rs : List Res}
theorem Bld.drew {b : Nat} {l : List UInt8} (S : Bld w b l Rs W) : Bld w b l Rs W.drew := by
  obtain ⟨p, v, hp, S⟩ := S
  exact ⟨p, v, hp, S.drew⟩
/-- A string's bytes beside a builder. -/
theorem Bld.bytes {b : Nat} {l : List UInt8} (S : Bld w b l Rs W) (s : ByteArray) : ∃ (g : Nat) (o : Obj), g = W.heap.size ∧ Bld w b l (boxR g o :: Rs) (Lib.bytesWorld W 5 s) ∧ ∀ (W' : World), W'.heap[g]? = some o → ∀ (j : Nat) (c : UInt8), s.data.toList[j]? = some c → W'.cell? ⟨g, j, none⟩ = some (.int .u8 c.toNat) := by
  obtain ⟨p, v, hp, S⟩ := S
  have hn := Lib.bytesWorld_at_new W 5 s
  refine ⟨W.heap.size, .cells (Lib.bytesCells W 5 s) 5 ((Lib.bytesCells W 5 s).size, (Lib.bytesCells W 5 s).size + 1), rfl, ⟨p, v, hp, ?_⟩, fun W' hW j c hj => ?_⟩
  · have S2 := S.add (belowBytes W 5 s) (R := boxR W.heap.size (.cells (Lib.bytesCells W 5 s) 5 ((Lib.bytesCells W 5 s).size, (Lib.bytesCells W 5 s).size + 1))) (G := [W.heap.size]) ⟨hn, rfl⟩ (by simp) (by simp)
    exact S2.perm ((List.Perm.swap _ _ _).trans (.cons _ (List.Perm.swap _ _ _)))
  · have hlt : j < s.size := (List.getElem?_eq_some_iff.1 hj).1
    have h1 := Lib.bytesWorld_cell W 5 s j hlt
    have h2 : s.data.toList.getD j 0 = c := by rw [List.getD_eq_getElem?_getD, hj]; rfl
    rw [h2] at h1
    simp only [World.cell?, hn] at h1
    simp only [World.cell?, hW]
    exact h1
theorem and15 (c : UInt8) : bits .and .u8 (c.toNat : Int) 15 = ((c.toNat % 16 : Nat) : Int) := by
  have h : ∀ n : Fin 256, bits .and .u8 (n.val : Int) 15 = ((n.val % 16 : Nat) : Int) := by decide +kernel
  exact h ⟨c.toNat, c.toNat_lt⟩
abbrev hexS : ByteArray := ⟨#[48, 49, 50, 51, 52, 53, 54, 55, 56, 57, 97, 98, 99, 100, 101, 102]⟩
theorem hex_at (n : Nat) (h : n < 16) : hexS.extract n (n + 1) = ⟨#[hexD n]⟩ := by
  have h : ∀ n : Fin 16, hexS.extract n.val (n.val + 1) = ⟨#[hexD n.val]⟩ := by decide +kernel
  exact h ⟨n, by omega⟩
theorem quote_snoc {L : List UInt8} {k : Nat} {c : UInt8} (h : L[k]? = some c) : 39 :: (L.take (k + 1)).flatMap quoteC = (39 :: (L.take k).flatMap quoteC) ++ quoteC c := by
  rw [List.take_add_one, h, List.flatMap_append]; simp
theorem quoteC_len (c : UInt8) : (quoteC c).length ≤ 4 := by
  unfold quoteC
  repeat' split
  all_goals simp
theorem quote_len (L : List UInt8) : (L.flatMap quoteC).length ≤ 4 * L.length := by
  induction L with
  | nil => simp
  | cons c L ih => rw [List.flatMap_cons, List.length_append, List.length_cons]; have := quoteC_len c; omega
set_option maxRecDepth 100000 in
set_option maxHeartbeats 2000000 in
theorem quote_ok (S : Sep w Rs W) (s : ByteArray) (hs : s.size ≤ 1000000) : Calls Tryz.prog 127 #[.string s] W fun e W' => e = .returned (.string ⟨(quoteL s.data.toList).toArray⟩) ∧ Sep w Rs W' := by
  obtain ⟨b, hb⟩ : ∃ gx_, (W.heap.size) = gx_ := ⟨_, rfl⟩
  have B0 := Bld.made S
  rw [hb] at B0
  have K1 := Lib.hid (bs_byte B0 39 39 rfl (by simp))
  have hcv := fun (w : World) => Lib.run_convert_string_bytes (P := Tryz.prog) w 9 47 5 s Tryz.underlying9 Tryz.underlying47 Tryz.underlying5
  clear S B0
  go_enter Tryz.func127, Tryz.ntmps127
  go_wp2_with fail
  try simp only [hb]
  refine K1.out.mono ?_
  rintro e w1 ⟨rfl, B1⟩
  obtain ⟨g, o, hg, B2, hc⟩ := B1.bytes s
  have H2 := Lib.hid (And.intro B2 (And.intro hc hs))
  obtain ⟨L, hL⟩ : ∃ L, s.data.toList = L := ⟨_, rfl⟩
  have hLn : s.size = L.length := by rw [← hL]; rfl
  have HL := Lib.hid (And.intro hL hLn)
  have hn1 : (s.size : Int) ≤ 1000000 := by omega
  clear K1 B1 B2 hc hb hL hLn hs
  go_wp2
  try rw [← hg]
  clear hg hcv
  go_loopw [10] (fun kv wr => ∃ k : Nat, k ≤ s.size ∧ kv = .int .i64 k ∧ Bld w b (39 :: (L.take k).flatMap quoteC) (boxR g o :: Rs) wr) (fun kv _ => s.size - (intOf kv).toNat)
  case atStart => exact ⟨0, by omega, rfl, by simpa using H2.out.1⟩
  case round =>
    obtain ⟨k, hk, rfl, B⟩ := hrel
    have hki : (k : Int) ≤ s.size := by omega
    by_cases hlt : k < s.size
    · have hlti : (k : Int) < s.size := by omega
      have hk0 : (0 : Int) ≤ k := by omega
      obtain ⟨c, hc⟩ : ∃ c, L[k]? = some c := ⟨L[k]'(by have := HL.out.2; omega), by simp⟩
      have hbox : wr.heap[g]? = some o := by obtain ⟨p, v, _, S⟩ := B; exact S.box 2 rfl
      have c0 := H2.out.2.1 wr hbox k c (by rw [HL.out.1]; exact hc)
      obtain ⟨ci, hci⟩ : ∃ ci : Int, (c.toNat : Int) = ci := ⟨_, rfl⟩
      rw [hci] at c0
      have hc255 : 0 ≤ ci ∧ ci ≤ 255 := by have := c.toNat_lt; omega
      obtain ⟨hci0, hci1⟩ := hc255
      have HK := Lib.hid (And.intro hc (And.intro hci (And.intro hlt hk)))
      have HQ := Lib.hid (quote_snoc hc)
      have hln : (39 :: (L.take k).flatMap quoteC).length ≤ 8000000 := by
        have h1 := quote_len (L.take k)
        have h2 := HL.out.2
        have h3 := H2.out.2.2
        rw [List.length_take] at h1
        simp only [List.length_cons]; omega
      have HW : Hid (∀ (t : ByteArray) (W : World), t.size ≤ 10 → Bld w b (39 :: (L.take k).flatMap quoteC) (boxR g o :: Rs) W → Calls Tryz.prog 125 #[.pointer (some ⟨b, 0, none⟩), .string t] W fun e w' => e = .returned (.tuple #[.int .i64 t.size, .nilIface]) ∧ Bld w b ((39 :: (L.take k).flatMap quoteC) ++ t.data.toList) (boxR g o :: Rs) w') := Lib.hid fun t W ht S => bs_write S t (by omega)
      have HB : Hid (Calls Tryz.prog 145 #[.pointer (some ⟨b, 0, none⟩), .int .u8 ci] wr fun e w' => e = .returned .nilIface ∧ Bld w b ((39 :: (L.take k).flatMap quoteC) ++ [c]) (boxR g o :: Rs) w') := Lib.hid (bs_byte B c ci hci.symm (by omega))
      have BW := Lib.hid B
      have hcu : ∀ n : Nat, n < 256 → ((c = n.toUInt8) ↔ ci = n) := fun n hn => by
        rw [← hci, ← UInt8.toNat_inj]
        simp [Nat.toUInt8, UInt8.toNat_ofNat']; omega
      have HCU := Lib.hid hcu
      clear B hbox hc hci hlt hk hln hcu
      have DONE : Hid (∀ (wx : World) (l : List UInt8), quoteC c = l → Bld w b ((39 :: (L.take k).flatMap quoteC) ++ l) (boxR g o :: Rs) wx → Bld w b (39 :: (L.take (k + 1)).flatMap quoteC) (boxR g o :: Rs) wx) := Lib.hid fun wx l hl S => by
        rw [HQ.out, hl]; exact S
      by_cases e1 : ci = 10
      · subst e1
        have K2 := Lib.hid (HW.out ⟨#[92, 110]⟩ _ (by decide) BW.out)
        go_wp2_with fail
        refine K2.out.mono ?_
        rintro e w3 ⟨rfl, B3⟩
        have B4 := Lib.hid (DONE.out _ [92, 110] (by have : c = 10 := (HCU.out 10 (by decide)).2 rfl; rw [this]; rfl) B3)
        clear B3 K2 HB HW
        go_wp2
        exact ⟨⟨k + 1, by have := HK.out.2.2.1; omega, by go_num, B4.out⟩, by have := HK.out.2.2.1; simp [intOf]; omega⟩
      · by_cases e2 : ci = 9
        · subst e2
          have K2 := Lib.hid (HW.out ⟨#[92, 116]⟩ _ (by decide) BW.out)
          go_wp2_with fail
          refine K2.out.mono ?_
          rintro e w3 ⟨rfl, B3⟩
          have B4 := Lib.hid (DONE.out _ [92, 116] (by have : c = 9 := (HCU.out 9 (by decide)).2 rfl; rw [this]; rfl) B3)
          clear B3 K2 HB HW
          go_wp2
          exact ⟨⟨k + 1, by have := HK.out.2.2.1; omega, by go_num, B4.out⟩, by have := HK.out.2.2.1; simp [intOf]; omega⟩
        · by_cases e3 : ci = 92
          · subst e3
            have hu : Utf8.encode 92 = ⟨#[92]⟩ := by decide
            have K2 := Lib.hid (HW.out (⟨#[92]⟩ ++ ⟨#[92]⟩) _ (by decide) BW.out)
            go_wp2_with fail
            refine K2.out.mono ?_
            rintro e w3 ⟨rfl, B3⟩
            have B4 := Lib.hid (DONE.out _ [92, 92] (by have : c = 92 := (HCU.out 92 (by decide)).2 rfl; rw [this]; rfl) B3)
            clear B3 K2 HB HW
            go_wp2
            exact ⟨⟨k + 1, by have := HK.out.2.2.1; omega, by go_num, B4.out⟩, by have := HK.out.2.2.1; simp [intOf]; omega⟩
          · by_cases e4 : ci = 39
            · subst e4
              have hu : Utf8.encode 39 = ⟨#[39]⟩ := by decide
              have K2 := Lib.hid (HW.out (⟨#[92]⟩ ++ ⟨#[39]⟩) _ (by decide) BW.out)
              go_wp2_with fail
              refine K2.out.mono ?_
              rintro e w3 ⟨rfl, B3⟩
              have B4 := Lib.hid (DONE.out _ [92, 39] (by have : c = 39 := (HCU.out 39 (by decide)).2 rfl; rw [this]; rfl) B3)
              clear B3 K2 HB HW
              go_wp2
              exact ⟨⟨k + 1, by have := HK.out.2.2.1; omega, by go_num, B4.out⟩, by have := HK.out.2.2.1; simp [intOf]; omega⟩
            · have hcn : c ≠ 10 ∧ c ≠ 9 ∧ ¬(c = 92 ∨ c = 39) := ⟨fun h => e1 ((HCU.out 10 (by decide)).1 h), fun h => e2 ((HCU.out 9 (by decide)).1 h), fun h => by
                rcases h with h | h
                · exact e3 ((HCU.out 92 (by decide)).1 h)
                · exact e4 ((HCU.out 39 (by decide)).1 h)⟩
              have g3 : (ci == 92) = false := by simp [e3]
              have g4 : (ci == 39) = false := by simp [e4]
              have g5 : ¬((ci == 92) = true ∨ (ci == 39) = true) := by rw [g3, g4]; simp
              have hcl : (c < 32 ∨ 126 < c) ↔ (ci < 32 ∨ 126 < ci) := by
                rw [UInt8.lt_iff_toNat_lt, UInt8.lt_iff_toNat_lt, ← HK.out.2.1]
                simp; omega
              by_cases e5 : ci < 32 ∨ 126 < ci
              · have HH : Hid (quoteC c = [92, 120, hexD (c.toNat / 16), hexD (c.toNat % 16)]) := Lib.hid (by
                  unfold quoteC
                  rw [if_neg hcn.1, if_neg hcn.2.1, if_neg hcn.2.2, if_pos (hcl.2 e5)])
                clear hcn hcl
                by_cases e6 : ci < 32
                · skip
                  -- REGION14 BEGIN
                  have hk3 := HK.out.2.1
                  obtain ⟨hi, hhi⟩ : ∃ hi : Int, ((c.toNat / 16 : Nat) : Int) = hi := ⟨_, rfl⟩
                  obtain ⟨lo, hlo⟩ : ∃ lo : Int, ((c.toNat % 16 : Nat) : Int) = lo := ⟨_, rfl⟩
                  have hhi2 : ci / 16 = hi := by omega
                  have hlo2 : bits .and .u8 ci 15 = lo := by rw [← hk3, and15, hlo]
                  have b1 : 0 ≤ hi := by omega
                  have b2 : hi < 16 := by omega
                  have b3 : 0 ≤ lo := by omega
                  have b4 : lo < 16 := by omega
                  have w1_ : IntKind.u8.wrap (hi + 1) = hi + 1 := by simp [IntKind.wrap, IntKind.bits, IntKind.signed]; omega
                  have w2_ : IntKind.u8.wrap (lo + 1) = lo + 1 := by simp [IntKind.wrap, IntKind.bits, IntKind.signed]; omega
                  have w3_ : hi + 1 ≤ 16 := by omega
                  have w4_ : lo + 1 ≤ 16 := by omega
                  have w5_ : hi ≤ hi + 1 := by omega
                  have w6_ : lo ≤ lo + 1 := by omega
                  have w7_ : ¬ 9223372036854775807 < 2 + ((hi + 1).toNat - hi.toNat) := by omega
                  have w8_ : ¬ 9223372036854775807 < 2 + ((hi + 1).toNat - hi.toNat) + ((lo + 1).toNat - lo.toNat) := by omega
                  have x1 : hexS.extract hi.toNat (hi + 1).toNat = ⟨#[hexD (c.toNat / 16)]⟩ := by
                    have : hi.toNat = c.toNat / 16 := by omega
                    rw [show (hi + 1).toNat = hi.toNat + 1 by omega, this]
                    exact hex_at _ (by omega)
                  have x2 : hexS.extract lo.toNat (lo + 1).toNat = ⟨#[hexD (c.toNat % 16)]⟩ := by
                    have : lo.toNat = c.toNat % 16 := by omega
                    rw [show (lo + 1).toNat = lo.toNat + 1 by omega, this]
                    exact hex_at _ (by omega)
                  have HSZ : Hid (((⟨#[92, 120]⟩ : ByteArray) ++ hexS.extract hi.toNat (hi + 1).toNat ++ hexS.extract lo.toNat (lo + 1).toNat).size ≤ 10) := Lib.hid (by rw [x1, x2, ByteArray.size_append, ByteArray.size_append]; exact (by decide : (2 + 1 + 1 : Nat) ≤ 10))
                  have HSE : Hid (((⟨#[92, 120]⟩ : ByteArray) ++ hexS.extract hi.toNat (hi + 1).toNat ++ hexS.extract lo.toNat (lo + 1).toNat).data.toList = [92, 120, hexD (c.toNat / 16), hexD (c.toNat % 16)]) := Lib.hid (by rw [x1, x2]; rfl)
                  have BQ := Lib.hid (Bld.drew BW.out)
                  clear x1 x2 hhi hlo hk3
                  go_upto_region 14 with fail
                  refine wp_region_held_drew (S := fun W => True) (by kernel_rfl) ((fun (_ : List Nat) (_ : True) => trivial) [] trivial) (fun hH => ?_)
                  refine takeT 0 hH (hy := .inl ⟨by rfl, by (intro w hSw; try obtain ⟨⟩ := hSw); (go_simp; try rfl)⟩) (h := ?_)
                  simp only [Act.put, List.setIfInBounds_toArray, List.set_cons_zero, List.set_cons_succ]
                  refine takeT 1 hH (hy := .inl ⟨by rfl, by (intro w hSw; try obtain ⟨⟩ := hSw); (go_simp; try rfl)⟩) (h := ?_)
                  simp only [Act.put, List.setIfInBounds_toArray, List.set_cons_zero, List.set_cons_succ]
                  refine takeT 2 hH (hy := .inl ⟨by rfl, by (intro w hSw; try obtain ⟨⟩ := hSw); (go_simp; try rfl)⟩) (h := ?_)
                  simp only [Act.put, List.setIfInBounds_toArray, List.set_cons_zero, List.set_cons_succ]
                  refine takeT 3 hH (hy := .inl ⟨by rfl, by (intro w hSw; try obtain ⟨⟩ := hSw); (go_simp; try rfl)⟩) (h := ?_)
                  simp only [Act.put, List.setIfInBounds_toArray, List.set_cons_zero, List.set_cons_succ]
                  refine takeT 4 hH (hy := .inl ⟨by rfl, by (intro w hSw; try obtain ⟨⟩ := hSw); (go_simp; try rfl)⟩) (h := ?_)
                  simp only [Act.put, List.setIfInBounds_toArray, List.set_cons_zero, List.set_cons_succ]
                  refine takeT 5 hH (hy := .inl ⟨by rfl, by (intro w hSw; try obtain ⟨⟩ := hSw); (go_simp; try rfl)⟩) (h := ?_)
                  simp only [Act.put, List.setIfInBounds_toArray, List.set_cons_zero, List.set_cons_succ]
                  refine takeT 6 hH (hy := .inl ⟨by rfl, by (intro w hSw; try obtain ⟨⟩ := hSw); (go_simp; try rfl)⟩) (h := ?_)
                  simp only [Act.put, List.setIfInBounds_toArray, List.set_cons_zero, List.set_cons_succ]
                  refine takeT 7 hH (hy := .inl ⟨by rfl, by (intro w hSw; try obtain ⟨⟩ := hSw); (go_simp; try rfl)⟩) (h := ?_)
                  simp only [Act.put, List.setIfInBounds_toArray, List.set_cons_zero, List.set_cons_succ]
                  refine takeT 8 hH (hy := .inl ⟨by rfl, by (intro w hSw; try obtain ⟨⟩ := hSw); (go_simp; try rfl)⟩) (h := ?_)
                  simp only [Act.put, List.setIfInBounds_toArray, List.set_cons_zero, List.set_cons_succ]
                  refine takeT 9 hH (hy := .inl ⟨by rfl, by (intro w hSw; try obtain ⟨⟩ := hSw); (go_simp; try rfl)⟩) (h := ?_)
                  simp only [Act.put, List.setIfInBounds_toArray, List.set_cons_zero, List.set_cons_succ]
                  refine takeT 10 hH (hy := .inl ⟨by rfl, by (intro w hSw; try obtain ⟨⟩ := hSw); (go_simp; try rfl)⟩) (h := ?_)
                  simp only [Act.put, List.setIfInBounds_toArray, List.set_cons_zero, List.set_cons_succ]
                  refine takeT 11 hH (hy := .inl ⟨by rfl, by (intro w hSw; try obtain ⟨⟩ := hSw); (go_simp; try rfl)⟩) (h := ?_)
                  simp only [Act.put, List.setIfInBounds_toArray, List.set_cons_zero, List.set_cons_succ]
                  refine takeT 12 hH (hy := .inl ⟨by rfl, by (intro w hSw; try obtain ⟨⟩ := hSw); (go_simp; try rfl)⟩) (h := ?_)
                  simp only [Act.put, List.setIfInBounds_toArray, List.set_cons_zero, List.set_cons_succ]
                  refine takeT 13 hH (hy := .inl ⟨by rfl, by (intro w hSw; try obtain ⟨⟩ := hSw); (go_simp; try rfl)⟩) (h := ?_)
                  simp only [Act.put, List.setIfInBounds_toArray, List.set_cons_zero, List.set_cons_succ]
                  refine readyT [14] ?_
                  refine consT (fun K hK => ?_) AllReadyH.nil
                  go_simp
                  go_wp2_with (go_at_call 125; refine (HW.out _ _ HSZ.out BQ.out).mono ?_; rintro e w1 ⟨rfl, B1⟩; have T1 : True := trivial; have B4 := Lib.hid (DONE.out _ [92, 120, hexD (c.toNat / 16), hexD (c.toNat % 16)] HH.out (by rw [HSE.out] at B1; exact B1)))
                  clear hH
                  refine hK.out _ _ ((fun (_ : List Nat) (_ : True) => trivial) [] T1) (fun hH => ?_)
                  clear hK K
                  refine wpAnyH_done (by kernel_rfl) ?_ _
                  as_aux_lemma =>
                    go_wp2_with fail
                    exact ⟨⟨k + 1, by have := HK.out.2.2.1; omega, by go_num, B4.out⟩, by have := HK.out.2.2.1; simp [intOf]; omega⟩
                  -- REGION14 END
                · have e7 : 126 < ci := by omega
                  -- REGION14 BEGIN
                  have hk3 := HK.out.2.1
                  obtain ⟨hi, hhi⟩ : ∃ hi : Int, ((c.toNat / 16 : Nat) : Int) = hi := ⟨_, rfl⟩
                  obtain ⟨lo, hlo⟩ : ∃ lo : Int, ((c.toNat % 16 : Nat) : Int) = lo := ⟨_, rfl⟩
                  have hhi2 : ci / 16 = hi := by omega
                  have hlo2 : bits .and .u8 ci 15 = lo := by rw [← hk3, and15, hlo]
                  have b1 : 0 ≤ hi := by omega
                  have b2 : hi < 16 := by omega
                  have b3 : 0 ≤ lo := by omega
                  have b4 : lo < 16 := by omega
                  have w1_ : IntKind.u8.wrap (hi + 1) = hi + 1 := by simp [IntKind.wrap, IntKind.bits, IntKind.signed]; omega
                  have w2_ : IntKind.u8.wrap (lo + 1) = lo + 1 := by simp [IntKind.wrap, IntKind.bits, IntKind.signed]; omega
                  have w3_ : hi + 1 ≤ 16 := by omega
                  have w4_ : lo + 1 ≤ 16 := by omega
                  have w5_ : hi ≤ hi + 1 := by omega
                  have w6_ : lo ≤ lo + 1 := by omega
                  have w7_ : ¬ 9223372036854775807 < 2 + ((hi + 1).toNat - hi.toNat) := by omega
                  have w8_ : ¬ 9223372036854775807 < 2 + ((hi + 1).toNat - hi.toNat) + ((lo + 1).toNat - lo.toNat) := by omega
                  have x1 : hexS.extract hi.toNat (hi + 1).toNat = ⟨#[hexD (c.toNat / 16)]⟩ := by
                    have : hi.toNat = c.toNat / 16 := by omega
                    rw [show (hi + 1).toNat = hi.toNat + 1 by omega, this]
                    exact hex_at _ (by omega)
                  have x2 : hexS.extract lo.toNat (lo + 1).toNat = ⟨#[hexD (c.toNat % 16)]⟩ := by
                    have : lo.toNat = c.toNat % 16 := by omega
                    rw [show (lo + 1).toNat = lo.toNat + 1 by omega, this]
                    exact hex_at _ (by omega)
                  have HSZ : Hid (((⟨#[92, 120]⟩ : ByteArray) ++ hexS.extract hi.toNat (hi + 1).toNat ++ hexS.extract lo.toNat (lo + 1).toNat).size ≤ 10) := Lib.hid (by rw [x1, x2, ByteArray.size_append, ByteArray.size_append]; exact (by decide : (2 + 1 + 1 : Nat) ≤ 10))
                  have HSE : Hid (((⟨#[92, 120]⟩ : ByteArray) ++ hexS.extract hi.toNat (hi + 1).toNat ++ hexS.extract lo.toNat (lo + 1).toNat).data.toList = [92, 120, hexD (c.toNat / 16), hexD (c.toNat % 16)]) := Lib.hid (by rw [x1, x2]; rfl)
                  have BQ := Lib.hid (Bld.drew BW.out)
                  clear x1 x2 hhi hlo hk3
                  go_upto_region 14 with fail
                  refine wp_region_held_drew (S := fun W => True) (by kernel_rfl) ((fun (_ : List Nat) (_ : True) => trivial) [] trivial) (fun hH => ?_)
                  refine takeT 0 hH (hy := .inl ⟨by rfl, by (intro w hSw; try obtain ⟨⟩ := hSw); (go_simp; try rfl)⟩) (h := ?_)
                  simp only [Act.put, List.setIfInBounds_toArray, List.set_cons_zero, List.set_cons_succ]
                  refine takeT 1 hH (hy := .inl ⟨by rfl, by (intro w hSw; try obtain ⟨⟩ := hSw); (go_simp; try rfl)⟩) (h := ?_)
                  simp only [Act.put, List.setIfInBounds_toArray, List.set_cons_zero, List.set_cons_succ]
                  refine takeT 2 hH (hy := .inl ⟨by rfl, by (intro w hSw; try obtain ⟨⟩ := hSw); (go_simp; try rfl)⟩) (h := ?_)
                  simp only [Act.put, List.setIfInBounds_toArray, List.set_cons_zero, List.set_cons_succ]
                  refine takeT 3 hH (hy := .inl ⟨by rfl, by (intro w hSw; try obtain ⟨⟩ := hSw); (go_simp; try rfl)⟩) (h := ?_)
                  simp only [Act.put, List.setIfInBounds_toArray, List.set_cons_zero, List.set_cons_succ]
                  refine takeT 4 hH (hy := .inl ⟨by rfl, by (intro w hSw; try obtain ⟨⟩ := hSw); (go_simp; try rfl)⟩) (h := ?_)
                  simp only [Act.put, List.setIfInBounds_toArray, List.set_cons_zero, List.set_cons_succ]
                  refine takeT 5 hH (hy := .inl ⟨by rfl, by (intro w hSw; try obtain ⟨⟩ := hSw); (go_simp; try rfl)⟩) (h := ?_)
                  simp only [Act.put, List.setIfInBounds_toArray, List.set_cons_zero, List.set_cons_succ]
                  refine takeT 6 hH (hy := .inl ⟨by rfl, by (intro w hSw; try obtain ⟨⟩ := hSw); (go_simp; try rfl)⟩) (h := ?_)
                  simp only [Act.put, List.setIfInBounds_toArray, List.set_cons_zero, List.set_cons_succ]
                  refine takeT 7 hH (hy := .inl ⟨by rfl, by (intro w hSw; try obtain ⟨⟩ := hSw); (go_simp; try rfl)⟩) (h := ?_)
                  simp only [Act.put, List.setIfInBounds_toArray, List.set_cons_zero, List.set_cons_succ]
                  refine takeT 8 hH (hy := .inl ⟨by rfl, by (intro w hSw; try obtain ⟨⟩ := hSw); (go_simp; try rfl)⟩) (h := ?_)
                  simp only [Act.put, List.setIfInBounds_toArray, List.set_cons_zero, List.set_cons_succ]
                  refine takeT 9 hH (hy := .inl ⟨by rfl, by (intro w hSw; try obtain ⟨⟩ := hSw); (go_simp; try rfl)⟩) (h := ?_)
                  simp only [Act.put, List.setIfInBounds_toArray, List.set_cons_zero, List.set_cons_succ]
                  refine takeT 10 hH (hy := .inl ⟨by rfl, by (intro w hSw; try obtain ⟨⟩ := hSw); (go_simp; try rfl)⟩) (h := ?_)
                  simp only [Act.put, List.setIfInBounds_toArray, List.set_cons_zero, List.set_cons_succ]
                  refine takeT 11 hH (hy := .inl ⟨by rfl, by (intro w hSw; try obtain ⟨⟩ := hSw); (go_simp; try rfl)⟩) (h := ?_)
                  simp only [Act.put, List.setIfInBounds_toArray, List.set_cons_zero, List.set_cons_succ]
                  refine takeT 12 hH (hy := .inl ⟨by rfl, by (intro w hSw; try obtain ⟨⟩ := hSw); (go_simp; try rfl)⟩) (h := ?_)
                  simp only [Act.put, List.setIfInBounds_toArray, List.set_cons_zero, List.set_cons_succ]
                  refine takeT 13 hH (hy := .inl ⟨by rfl, by (intro w hSw; try obtain ⟨⟩ := hSw); (go_simp; try rfl)⟩) (h := ?_)
                  simp only [Act.put, List.setIfInBounds_toArray, List.set_cons_zero, List.set_cons_succ]
                  refine readyT [14] ?_
                  refine consT (fun K hK => ?_) AllReadyH.nil
                  go_simp
                  go_wp2_with (go_at_call 125; refine (HW.out _ _ HSZ.out BQ.out).mono ?_; rintro e w1 ⟨rfl, B1⟩; have T1 : True := trivial; have B4 := Lib.hid (DONE.out _ [92, 120, hexD (c.toNat / 16), hexD (c.toNat % 16)] HH.out (by rw [HSE.out] at B1; exact B1)))
                  clear hH
                  refine hK.out _ _ ((fun (_ : List Nat) (_ : True) => trivial) [] T1) (fun hH => ?_)
                  clear hK K
                  refine wpAnyH_done (by kernel_rfl) ?_ _
                  as_aux_lemma =>
                    go_wp2_with fail
                    exact ⟨⟨k + 1, by have := HK.out.2.2.1; omega, by go_num, B4.out⟩, by have := HK.out.2.2.1; simp [intOf]; omega⟩
                  -- REGION14 END
              · have HH : Hid (quoteC c = [c]) := Lib.hid (by
                  unfold quoteC
                  rw [if_neg hcn.1, if_neg hcn.2.1, if_neg hcn.2.2, if_neg (fun h => e5 (hcl.1 h))])
                have e6 : ¬ ci < 32 := by omega
                have e7 : ¬ 126 < ci := by omega
                clear hcn hcl e5
                go_wp2_with fail
                refine HB.out.mono ?_
                rintro e w3 ⟨rfl, B3⟩
                have B4 := Lib.hid (DONE.out _ [c] HH.out B3)
                clear B3 HB HW
                go_wp2
                exact ⟨⟨k + 1, by have := HK.out.2.2.1; omega, by go_num, B4.out⟩, by have := HK.out.2.2.1; simp [intOf]; omega⟩
    · have hkn : k = s.size := by omega
      have hq : 39 :: (L.take k).flatMap quoteC = 39 :: L.flatMap quoteC := by rw [hkn, HL.out.2, List.take_length]
      rw [hq] at B
      have hln := quote_len L
      have K2 := Lib.hid (bs_byte B 39 39 rfl (by have h2 := HL.out.2; have h3 := H2.out.2.2; simp only [List.length_cons]; omega))
      have HE : Hid ((39 :: L.flatMap quoteC) ++ [39] = quoteL s.data.toList) := Lib.hid (by rw [HL.out.1]; rfl)
      clear B hq hk hln
      go_wp2_with fail
      refine K2.out.mono ?_
      rintro e w3 ⟨rfl, B3⟩
      rw [HE.out] at B3
      have K3 := Lib.hid (bs_end B3)
      clear K2 B3 HE
      go_wp2_with fail
      refine K3.out.mono ?_
      rintro e w4 ⟨rfl, S4⟩
      have HS := Lib.hid S4.tail
      clear K3 S4
      go_wp2
      go_ret
      exact ⟨rfl, HS.out⟩
end
end Go.Proofs.YtellmfimmghidaaGreat
