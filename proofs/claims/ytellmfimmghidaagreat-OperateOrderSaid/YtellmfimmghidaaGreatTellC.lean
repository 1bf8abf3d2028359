/- ch 16: a row of parts told. -/
import Derived.Test.YtellmfimmghidaaGreatTellB
namespace Go.Proofs.YtellmfimmghidaaGreat
set_option linter.unusedSimpArgs false
open Go.RowKit
set_option linter.unusedVariables false
section
variable {w W : World} {Rs : List Res} {t h : Nat} {H : HeapM} {T : TelM}
set_option maxRecDepth 100000 in
set_option maxHeartbeats 4000000 in
theorem row1_ok (x1 x2 x3 : Value) (ps : List (TelM → TelM)) (hpl : ps.length ≤ 9223372036854775807)
    (hp : ∀ (k : Nat) (p : TelM → TelM), ps[k]? = some p → ∀ {W : World} {T : TelM}, Sep w (tellR t h T :: Rs) W → T.out.length ≤ 65536 → Calls Tryz.prog 102 #[.int .i64 k, x1, x2, x3] W fun e W' => e = .returned (.tuple #[]) ∧ Sep w (tellR t h (p T) :: Rs) W')
    (ho : ∀ p ∈ ps, ∀ T : TelM, T.out.length ≤ 65536 → (p T).out.length ≤ 65536) (hf : ∀ p ∈ ps, ∀ T : TelM, T.fell ≠ .no → p T = T)
    (sg : ByteArray) (hs1 : 1 ≤ sg.size) (hs2 : sg.size ≤ 10) (oc cc : List UInt8) (hoc : (sg.extract 0 1).data.toList = oc) (hcc : (sg.extract 1 sg.size).data.toList = cc)
    (S : Sep w (tellR t h T :: Rs) W) (hT : T.out.length ≤ 65536) :
    Calls Tryz.prog 103 #[.pointer (some ⟨t, 0, none⟩), .string sg, .int .i64 ps.length, .func (.func 102) #[] #[x1, x2, x3]] W fun e W' => e = .returned (.tuple #[]) ∧ Sep w (tellR t h (rowF oc cc ps T) :: Rs) W' := by
  have hs3 : (1 : Int) ≤ sg.size := by omega
  have e1 : (sg.extract 0 1).size ≤ 1000000 := by simp; omega
  have e2 : (sg.extract 1 sg.size).size ≤ 1000000 := by simp; omega
  have K1 := say_ok S 0 rfl (sg.extract 0 1) e1 hT
  rw [hoc] at K1
  simp only [List.set_cons_zero] at K1
  have K2 : Hid (∀ {W : World} {T : TelM}, Sep w (tellR t h T :: Rs) W → T.out.length ≤ 65536 → Calls Tryz.prog 100 #[.pointer (some ⟨t, 0, none⟩), .string (sg.extract 1 sg.size)] W fun e W' => e = .returned (.tuple #[]) ∧ Sep w (tellR t h (T.say cc) :: Rs) W') := Lib.hid fun S hT => by
    have := say_ok S 0 rfl (sg.extract 1 sg.size) e2 hT
    rw [hcc] at this; exact this
  have K3 : Hid (∀ {W : World} {T : TelM}, Sep w (tellR t h T :: Rs) W → T.out.length ≤ 65536 → Calls Tryz.prog 100 #[.pointer (some ⟨t, 0, none⟩), .string ⟨#[44, 32]⟩] W fun e W' => e = .returned (.tuple #[]) ∧ Sep w (tellR t h (T.say [44, 32]) :: Rs) W') := Lib.hid fun S hT => say_ok S 0 rfl ⟨#[44, 32]⟩ (by decide) hT
  obtain ⟨T1, hT1⟩ : ∃ T1, T.say oc = T1 := ⟨_, rfl⟩
  have hT2 : T1.out.length ≤ 65536 := by rw [← hT1]; exact TelM.say_out _ hT
  rw [hT1] at K1
  have HR : Hid (rowF oc cc ps T = (partsF true ps T1).say cc) := Lib.hid (by unfold rowF; rw [hT1])
  have HO : Hid (∀ k, k ≤ ps.length → (partsF true (ps.take k) T1).out.length ≤ 65536) := Lib.hid fun k => by
    induction k with
    | zero => intro _; exact hT2
    | succ k ih =>
      intro hk
      have hk1 : ps[k]? = some (ps[k]'(by omega)) := by simp
      rw [partsF_snoc k ps _ T1 hk1]
      have hm := List.mem_of_getElem? hk1
      by_cases h0 : k = 0
      · rw [if_pos h0]; exact ho _ hm _ (ih (by omega))
      · rw [if_neg h0]; exact ho _ hm _ (TelM.say_out _ (ih (by omega)))
  have HE : Hid (∀ k, (partsF true (ps.take k) T1).fell ≠ .no → partsF true ps T1 = partsF true (ps.take k) T1) := Lib.hid fun k hk => by
    rw [partsF_rest k true ps T1]
    exact partsF_fell _ _ hk fun p hp T h2 => hf p (List.mem_of_mem_drop hp) T h2
  have hpi : (ps.length : Int) ≤ 9223372036854775807 := by omega
  have HP := Lib.hid hp
  have K1 := Lib.hid K1
  clear S hT hT1 hT2 hoc hcc hp ho hf e1 e2 hpl hs1 hs2
  go_enter Tryz.func103, Tryz.ntmps103
  go_wp2_with fail
  refine K1.out.mono ?_
  rintro e w1 ⟨rfl, S1⟩
  have H1 := Lib.hid S1
  clear K1 S1
  go_wp2
  go_loopw [14] (fun kv wr => ∃ k : Nat, k ≤ ps.length ∧ kv = .int .i64 k ∧ Sep w (tellR t h (partsF true (ps.take k) T1) :: Rs) wr) (fun kv _ => ps.length - (intOf kv).toNat)
  case atStart => exact ⟨0, by omega, rfl, by have := H1.out; simpa [partsF] using this⟩
  case round =>
    clear H1
    obtain ⟨k, hk, rfl, S⟩ := hrel
    have hki : (k : Int) ≤ ps.length := by omega
    have hk0 : (0 : Int) ≤ k := by omega
    have hTk := HO.out k hk
    obtain ⟨Tk, hTkd⟩ : ∃ Tk, partsF true (ps.take k) T1 = Tk := ⟨_, rfl⟩
    rw [hTkd] at S hTk
    by_cases hlt : k < ps.length
    · have hlti : (k : Int) < ps.length := by omega
      obtain ⟨p, hpk⟩ : ∃ p, ps[k]? = some p := ⟨ps[k], by simp [hlt]⟩
      have HK := Lib.hid (And.intro hpk (And.intro hlt (And.intro hTkd hTk)))
      obtain ⟨pq, vq, hq1, hq2, hq3, -⟩ := S.telB 0 rfl
      have HS := Lib.hid S
      cases hfl : Tk.fell with
      | no =>
        rw [hfl] at hq2
        have c2 := cellAt hq2 3 (v := .string ⟨#[]⟩) rfl
        have HF := Lib.hid hfl
        have DN : Hid (∀ wx, Sep w (tellR t h (p (if k = 0 then Tk else Tk.say [44, 32])) :: Rs) wx → Sep w (tellR t h (partsF true (ps.take (k + 1)) T1) :: Rs) wx) := Lib.hid fun wx S => by rw [partsF_snoc k ps p T1 HK.out.1, HK.out.2.2.1]; exact S
        clear S hpk hlt hTkd hTk hfl hq1 hq2 hq3 hk
        by_cases hk1 : k = 0
        · subst hk1
          have K4 := Lib.hid (HP.out 0 p HK.out.1 HS.out HK.out.2.2.2)
          go_wp2_with fail
          refine K4.out.mono ?_
          rintro e w3 ⟨rfl, S3⟩
          have S4 := Lib.hid (DN.out _ S3)
          clear K4 S3 HS c2
          go_wp2
          exact ⟨⟨0 + 1, by have := HK.out.2.1; omega, by go_num, S4.out⟩, by have := HK.out.2.1; simp [intOf]; omega⟩
        · have hk2 : (0 : Int) < k := by omega
          have K4 := Lib.hid (K3.out HS.out HK.out.2.2.2)
          go_wp2_with fail
          refine K4.out.mono ?_
          rintro e w3 ⟨rfl, S3⟩
          have K5 := Lib.hid (HP.out k p HK.out.1 S3 (TelM.say_out _ HK.out.2.2.2))
          clear K4 S3 HS c2
          go_wp2_with fail
          refine K5.out.mono ?_
          rintro e w4 ⟨rfl, S4⟩
          have S5 := Lib.hid (DN.out _ (by rw [if_neg hk1]; exact S4))
          clear K5 S4
          go_wp2
          exact ⟨⟨k + 1, by have := HK.out.2.1; omega, by go_num, S5.out⟩, by have := HK.out.2.1; simp [intOf]; omega⟩
      | memory =>
        rw [hfl] at hq2
        have c2 := cellAt hq2 3 (v := .string memoryError) rfl
        have hfx : Tk.fell ≠ .no := by rw [hfl]; intro hh; cases hh
        have DN : Hid (rowF oc cc ps T = Tk) := Lib.hid (by rw [HR.out, HE.out k (by rw [hTkd]; exact hfx), hTkd]; exact TelM.say_fell hfx _)
        clear S hpk hlt hTkd hTk hfl hq1 hq2 hq3 hk hfx
        go_wp2
        first | go_end0 | go_returns
        rw [DN.out]
        exact ⟨rfl, HS.out⟩
      | deep =>
        rw [hfl] at hq2
        have c2 := cellAt hq2 3 (v := .string recursionError) rfl
        have hfx : Tk.fell ≠ .no := by rw [hfl]; intro hh; cases hh
        have DN : Hid (rowF oc cc ps T = Tk) := Lib.hid (by rw [HR.out, HE.out k (by rw [hTkd]; exact hfx), hTkd]; exact TelM.say_fell hfx _)
        clear S hpk hlt hTkd hTk hfl hq1 hq2 hq3 hk hfx
        go_wp2
        first | go_end0 | go_returns
        rw [DN.out]
        exact ⟨rfl, HS.out⟩
    · have hkn : k = ps.length := by omega
      rw [hkn, List.take_length] at hTkd
      have hkx : ¬ (k : Int) < ps.length := by omega
      have K4 := Lib.hid (K2.out S hTk)
      have DN : Hid (rowF oc cc ps T = Tk.say cc) := Lib.hid (by rw [HR.out, hTkd])
      clear S hTk hTkd hkn hk hlt
      go_wp2_with fail
      refine K4.out.mono ?_
      rintro e w3 ⟨rfl, S3⟩
      have HS := Lib.hid S3
      clear K4 S3
      go_wp2
      go_end0
      rw [DN.out]
      exact ⟨rfl, HS.out⟩
set_option maxRecDepth 100000 in
set_option maxHeartbeats 4000000 in
theorem row2_ok (x1 x2 x3 x4 x5 : Value) (ps : List (TelM → TelM)) (hpl : ps.length ≤ 9223372036854775807)
    (hp : ∀ (k : Nat) (p : TelM → TelM), ps[k]? = some p → ∀ {W : World} {T : TelM}, Sep w (tellR t h T :: Rs) W → T.out.length ≤ 65536 → Calls Tryz.prog 105 #[.int .i64 k, x1, x2, x3, x4, x5] W fun e W' => e = .returned (.tuple #[]) ∧ Sep w (tellR t h (p T) :: Rs) W')
    (ho : ∀ p ∈ ps, ∀ T : TelM, T.out.length ≤ 65536 → (p T).out.length ≤ 65536) (hf : ∀ p ∈ ps, ∀ T : TelM, T.fell ≠ .no → p T = T)
    (sg : ByteArray) (hs1 : 1 ≤ sg.size) (hs2 : sg.size ≤ 10) (oc cc : List UInt8) (hoc : (sg.extract 0 1).data.toList = oc) (hcc : (sg.extract 1 sg.size).data.toList = cc)
    (S : Sep w (tellR t h T :: Rs) W) (hT : T.out.length ≤ 65536) :
    Calls Tryz.prog 103 #[.pointer (some ⟨t, 0, none⟩), .string sg, .int .i64 ps.length, .func (.func 105) #[] #[x1, x2, x3, x4, x5]] W fun e W' => e = .returned (.tuple #[]) ∧ Sep w (tellR t h (rowF oc cc ps T) :: Rs) W' := by
  have hs3 : (1 : Int) ≤ sg.size := by omega
  have e1 : (sg.extract 0 1).size ≤ 1000000 := by simp; omega
  have e2 : (sg.extract 1 sg.size).size ≤ 1000000 := by simp; omega
  have K1 := say_ok S 0 rfl (sg.extract 0 1) e1 hT
  rw [hoc] at K1
  simp only [List.set_cons_zero] at K1
  have K2 : Hid (∀ {W : World} {T : TelM}, Sep w (tellR t h T :: Rs) W → T.out.length ≤ 65536 → Calls Tryz.prog 100 #[.pointer (some ⟨t, 0, none⟩), .string (sg.extract 1 sg.size)] W fun e W' => e = .returned (.tuple #[]) ∧ Sep w (tellR t h (T.say cc) :: Rs) W') := Lib.hid fun S hT => by
    have := say_ok S 0 rfl (sg.extract 1 sg.size) e2 hT
    rw [hcc] at this; exact this
  have K3 : Hid (∀ {W : World} {T : TelM}, Sep w (tellR t h T :: Rs) W → T.out.length ≤ 65536 → Calls Tryz.prog 100 #[.pointer (some ⟨t, 0, none⟩), .string ⟨#[44, 32]⟩] W fun e W' => e = .returned (.tuple #[]) ∧ Sep w (tellR t h (T.say [44, 32]) :: Rs) W') := Lib.hid fun S hT => say_ok S 0 rfl ⟨#[44, 32]⟩ (by decide) hT
  obtain ⟨T1, hT1⟩ : ∃ T1, T.say oc = T1 := ⟨_, rfl⟩
  have hT2 : T1.out.length ≤ 65536 := by rw [← hT1]; exact TelM.say_out _ hT
  rw [hT1] at K1
  have HR : Hid (rowF oc cc ps T = (partsF true ps T1).say cc) := Lib.hid (by unfold rowF; rw [hT1])
  have HO : Hid (∀ k, k ≤ ps.length → (partsF true (ps.take k) T1).out.length ≤ 65536) := Lib.hid fun k => by
    induction k with
    | zero => intro _; exact hT2
    | succ k ih =>
      intro hk
      have hk1 : ps[k]? = some (ps[k]'(by omega)) := by simp
      rw [partsF_snoc k ps _ T1 hk1]
      have hm := List.mem_of_getElem? hk1
      by_cases h0 : k = 0
      · rw [if_pos h0]; exact ho _ hm _ (ih (by omega))
      · rw [if_neg h0]; exact ho _ hm _ (TelM.say_out _ (ih (by omega)))
  have HE : Hid (∀ k, (partsF true (ps.take k) T1).fell ≠ .no → partsF true ps T1 = partsF true (ps.take k) T1) := Lib.hid fun k hk => by
    rw [partsF_rest k true ps T1]
    exact partsF_fell _ _ hk fun p hp T h2 => hf p (List.mem_of_mem_drop hp) T h2
  have hpi : (ps.length : Int) ≤ 9223372036854775807 := by omega
  have HP := Lib.hid hp
  have K1 := Lib.hid K1
  clear S hT hT1 hT2 hoc hcc hp ho hf e1 e2 hpl hs1 hs2
  go_enter Tryz.func103, Tryz.ntmps103
  go_wp2_with fail
  refine K1.out.mono ?_
  rintro e w1 ⟨rfl, S1⟩
  have H1 := Lib.hid S1
  clear K1 S1
  go_wp2
  go_loopw [14] (fun kv wr => ∃ k : Nat, k ≤ ps.length ∧ kv = .int .i64 k ∧ Sep w (tellR t h (partsF true (ps.take k) T1) :: Rs) wr) (fun kv _ => ps.length - (intOf kv).toNat)
  case atStart => exact ⟨0, by omega, rfl, by have := H1.out; simpa [partsF] using this⟩
  case round =>
    clear H1
    obtain ⟨k, hk, rfl, S⟩ := hrel
    have hki : (k : Int) ≤ ps.length := by omega
    have hk0 : (0 : Int) ≤ k := by omega
    have hTk := HO.out k hk
    obtain ⟨Tk, hTkd⟩ : ∃ Tk, partsF true (ps.take k) T1 = Tk := ⟨_, rfl⟩
    rw [hTkd] at S hTk
    by_cases hlt : k < ps.length
    · have hlti : (k : Int) < ps.length := by omega
      obtain ⟨p, hpk⟩ : ∃ p, ps[k]? = some p := ⟨ps[k], by simp [hlt]⟩
      have HK := Lib.hid (And.intro hpk (And.intro hlt (And.intro hTkd hTk)))
      obtain ⟨pq, vq, hq1, hq2, hq3, -⟩ := S.telB 0 rfl
      have HS := Lib.hid S
      cases hfl : Tk.fell with
      | no =>
        rw [hfl] at hq2
        have c2 := cellAt hq2 3 (v := .string ⟨#[]⟩) rfl
        have HF := Lib.hid hfl
        have DN : Hid (∀ wx, Sep w (tellR t h (p (if k = 0 then Tk else Tk.say [44, 32])) :: Rs) wx → Sep w (tellR t h (partsF true (ps.take (k + 1)) T1) :: Rs) wx) := Lib.hid fun wx S => by rw [partsF_snoc k ps p T1 HK.out.1, HK.out.2.2.1]; exact S
        clear S hpk hlt hTkd hTk hfl hq1 hq2 hq3 hk
        by_cases hk1 : k = 0
        · subst hk1
          have K4 := Lib.hid (HP.out 0 p HK.out.1 HS.out HK.out.2.2.2)
          go_wp2_with fail
          refine K4.out.mono ?_
          rintro e w3 ⟨rfl, S3⟩
          have S4 := Lib.hid (DN.out _ S3)
          clear K4 S3 HS c2
          go_wp2
          exact ⟨⟨0 + 1, by have := HK.out.2.1; omega, by go_num, S4.out⟩, by have := HK.out.2.1; simp [intOf]; omega⟩
        · have hk2 : (0 : Int) < k := by omega
          have K4 := Lib.hid (K3.out HS.out HK.out.2.2.2)
          go_wp2_with fail
          refine K4.out.mono ?_
          rintro e w3 ⟨rfl, S3⟩
          have K5 := Lib.hid (HP.out k p HK.out.1 S3 (TelM.say_out _ HK.out.2.2.2))
          clear K4 S3 HS c2
          go_wp2_with fail
          refine K5.out.mono ?_
          rintro e w4 ⟨rfl, S4⟩
          have S5 := Lib.hid (DN.out _ (by rw [if_neg hk1]; exact S4))
          clear K5 S4
          go_wp2
          exact ⟨⟨k + 1, by have := HK.out.2.1; omega, by go_num, S5.out⟩, by have := HK.out.2.1; simp [intOf]; omega⟩
      | memory =>
        rw [hfl] at hq2
        have c2 := cellAt hq2 3 (v := .string memoryError) rfl
        have hfx : Tk.fell ≠ .no := by rw [hfl]; intro hh; cases hh
        have DN : Hid (rowF oc cc ps T = Tk) := Lib.hid (by rw [HR.out, HE.out k (by rw [hTkd]; exact hfx), hTkd]; exact TelM.say_fell hfx _)
        clear S hpk hlt hTkd hTk hfl hq1 hq2 hq3 hk hfx
        go_wp2
        first | go_end0 | go_returns
        rw [DN.out]
        exact ⟨rfl, HS.out⟩
      | deep =>
        rw [hfl] at hq2
        have c2 := cellAt hq2 3 (v := .string recursionError) rfl
        have hfx : Tk.fell ≠ .no := by rw [hfl]; intro hh; cases hh
        have DN : Hid (rowF oc cc ps T = Tk) := Lib.hid (by rw [HR.out, HE.out k (by rw [hTkd]; exact hfx), hTkd]; exact TelM.say_fell hfx _)
        clear S hpk hlt hTkd hTk hfl hq1 hq2 hq3 hk hfx
        go_wp2
        first | go_end0 | go_returns
        rw [DN.out]
        exact ⟨rfl, HS.out⟩
    · have hkn : k = ps.length := by omega
      rw [hkn, List.take_length] at hTkd
      have hkx : ¬ (k : Int) < ps.length := by omega
      have K4 := Lib.hid (K2.out S hTk)
      have DN : Hid (rowF oc cc ps T = Tk.say cc) := Lib.hid (by rw [HR.out, hTkd])
      clear S hTk hTkd hkn hk hlt
      go_wp2_with fail
      refine K4.out.mono ?_
      rintro e w3 ⟨rfl, S3⟩
      have HS := Lib.hid S3
      clear K4 S3
      go_wp2
      go_end0
      rw [DN.out]
      exact ⟨rfl, HS.out⟩
end
end Go.Proofs.YtellmfimmghidaaGreat
