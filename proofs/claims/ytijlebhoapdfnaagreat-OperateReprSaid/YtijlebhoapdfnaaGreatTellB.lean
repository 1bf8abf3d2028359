import Derived.Test.YtijlebhoapdfnaaGreatQuoA
import Derived.Test.YtijlebhoapdfnaaGreatOprC
import Derived.Test.YtijlebhoapdfnaaGreatRegS
/- ch 16: how a value that is no row and no dict is told; a row of parts. -/
set_option maxRecDepth 100000
set_option maxHeartbeats 4000000
namespace Go.Proofs.YtijlebhoapdfnaaGreat
set_option linter.unusedSimpArgs false
open Go.RowKit
set_option linter.unusedVariables false
theorem partsF_rest : ∀ (k : Nat) (first : Bool) (l : List (TelM → TelM)) (t : TelM), partsF first l t = partsF (if k = 0 then first else if (l.take k).isEmpty then first else false) (l.drop k) (partsF first (l.take k) t)
 | 0, first, l, t => by cases l <;> rfl
 | k + 1, first, [], t => by simp [partsF]
 | k + 1, first, p :: l, t => by
  show partsF false l (p (if first = true then t else t.say [44, 32])) = partsF (if k + 1 = 0 then first else if (p :: l.take k).isEmpty then first else false) (l.drop k) (partsF false (l.take k) (p (if first = true then t else t.say [44, 32])))
  rw [partsF_rest k false l _]
  simp
theorem partsF_snoc (k : Nat) (l : List (TelM → TelM)) (p : TelM → TelM) (t : TelM) (h : l[k]? = some p) : partsF true (l.take (k + 1)) t = p (if k = 0 then partsF true (l.take k) t else (partsF true (l.take k) t).say [44, 32]) := by
 rw [List.take_add_one, h, partsF_rest k true (l.take k ++ (some p).toList) t]
 have hk : k < l.length := (List.getElem?_eq_some_iff.1 h).1
 have h1 : (l.take k ++ (some p).toList).take k = l.take k := by rw [List.take_append_of_le_length (by simp; omega), List.take_take, Nat.min_self]
 have h2 : (l.take k ++ (some p).toList).drop k = [p] := by
  rw [List.drop_append_of_le_length (by simp; omega), List.drop_eq_nil_of_le (by simp; omega)]; rfl
 rw [h1, h2]
 by_cases hk0 : k = 0
 ·
  rw [if_pos hk0, if_pos hk0]; rfl
 ·
  have : (l.take k).isEmpty = false := by
   rw [Bool.eq_false_iff]
   intro he
   have := List.isEmpty_iff.1 he
   have := congrArg List.length this
   rw [List.length_take, List.length_nil] at this
   omega
  rw [if_neg hk0, if_neg hk0, this]; rfl
section
variable {w W : World} {Rs : List Res} {t h : Nat} {H : HeapM} {T : TelM}
/-- None, a bool, an int, a str. -/
theorem plain_ok (S : Sep w Rs W) (v : V) (hk : v.kind = 0 ∨ v.kind = 1 ∨ v.kind = 2 ∨ v.kind = 3) (hs : v.s.size ≤ 100000) :
  Calls Tryz.prog 166 #[.pointer (some ⟨t, 0, none⟩), .agg #[.int .i64 v.kind, .int .i64 v.n, .string v.s]] W fun e W' => e = .returned (.string ⟨(H.plainL v).toArray⟩) ∧ Sep w Rs W' := by
 have hnv := v.hn
 have hdef : H.plainL v = if v.kind = 0 then [78, 111, 110, 101] else if v.kind = 1 then (if v.n ≠ 0 then [84, 114, 117, 101] else [70, 97, 108, 115, 101]) else if v.kind = 2 then textN v.n else quoteL v.s.data.toList := by
  rcases hk with e | e | e | e <;> (unfold HeapM.plainL; simp [e])
 generalize H.plainL v = pl at hdef ⊢
 generalize v.kind = kd at hk hdef ⊢
 generalize v.n = vn at hnv hdef ⊢
 generalize v.s = vs at hs hdef ⊢
 obtain ⟨b, hb⟩ : ∃ gx_, (W.heap.size) = gx_ := ⟨_, rfl⟩
 have S1 := S.alloc (.cells #[.int .i64 kd, .int .i64 vn, .string vs] 24)
 rw [hb] at S1
 have d00 := cellAt (S1.box (b := b) 0 rfl) 0 (v := .int .i64 kd) rfl
 have d01 := cellAt (S1.box (b := b) 0 rfl) 1 (v := .int .i64 vn) rfl
 have d02 := cellAt (S1.box (b := b) 0 rfl) 2 (v := .string vs) rfl
 have HS := Lib.hid S1.tail
 have HV := Lib.hid hnv
 rcases hk with e | e | e | e
 ·
  have HP : Hid (pl = [78, 111, 110, 101]) := Lib.hid (by rw [hdef]; simp [e])
  subst e
  clear S S1 hdef
  go_enter Tryz.func166, Tryz.ntmps166
  go_wp2
  go_ret
  rw [HP.out]
  exact ⟨rfl, HS.out⟩
 ·
  by_cases hn : vn = 0
  ·
   have HP : Hid (pl = [70, 97, 108, 115, 101]) := Lib.hid (by rw [hdef]; simp [e, hn])
   subst e
   subst hn
   clear S S1 hdef
   go_enter Tryz.func166, Tryz.ntmps166
   go_wp2
   go_ret
   rw [HP.out]
   exact ⟨rfl, HS.out⟩
  ·
   have HP : Hid (pl = [84, 114, 117, 101]) := Lib.hid (by rw [hdef]; simp [e, hn])
   subst e
   have hn1 : (vn != 0) = true := by simp [hn]
   clear S S1 hdef
   go_enter Tryz.func166, Tryz.ntmps166
   go_wp2
   go_ret
   rw [HP.out]
   exact ⟨rfl, HS.out⟩
 ·
  have HP : Hid (pl = textN vn) := Lib.hid (by rw [hdef]; simp [e])
  subst e
  have K := Lib.hid (textN_ok S1 vn HV.out)
  clear S S1 hdef
  go_enter Tryz.func166, Tryz.ntmps166
  go_wp2_with fail
  try simp only [hb]
  refine K.out.mono ?_
  rintro e w1 ⟨rfl, S2⟩
  have HS := Lib.hid S2.tail
  clear K S2 d00 d01 d02 hb
  go_wp2
  go_ret
  rw [HP.out]
  exact ⟨rfl, HS.out⟩
 ·
  have HP : Hid (pl = quoteL vs.data.toList) := Lib.hid (by rw [hdef]; simp [e])
  subst e
  have K := Lib.hid (quote_ok S1 vs (by omega))
  clear S S1 hdef
  go_enter Tryz.func166, Tryz.ntmps166
  go_wp2_with fail
  try simp only [hb]
  refine K.out.mono ?_
  rintro e w1 ⟨rfl, S2⟩
  have HS := Lib.hid S2.tail
  clear K S2 d00 d01 d02 hb
  go_wp2
  go_ret
  rw [HP.out]
  exact ⟨rfl, HS.out⟩
end
end Go.Proofs.YtijlebhoapdfnaaGreat
/- ch 16: a row of parts told. -/
namespace Go.Proofs.YtijlebhoapdfnaaGreat
set_option linter.unusedSimpArgs false
open Go.RowKit
set_option linter.unusedVariables false
section
variable {w W : World} {Rs : List Res} {t h : Nat} {H : HeapM} {T : TelM}
theorem row1_ok (x1 x2 x3 : Value) (ps : List (TelM → TelM)) (hpl : ps.length ≤ 9223372036854775807)
  (hp : ∀ (k : Nat) (p : TelM → TelM), ps[k]? = some p → ∀ {W : World} {T : TelM}, Sep w (tellR t h T :: Rs) W → T.out.length ≤ 65536 → Calls Tryz.prog 167 #[.int .i64 k, x1, x2, x3] W fun e W' => e = .returned (.tuple #[]) ∧ Sep w (tellR t h (p T) :: Rs) W')
  (ho : ∀ p ∈ ps, ∀ T : TelM, T.out.length ≤ 65536 → (p T).out.length ≤ 65536) (hf : ∀ p ∈ ps, ∀ T : TelM, T.fell ≠ .no → p T = T)
  (sg : ByteArray) (hs1 : 1 ≤ sg.size) (hs2 : sg.size ≤ 10) (oc cc : List UInt8) (hoc : (sg.extract 0 1).data.toList = oc) (hcc : (sg.extract 1 sg.size).data.toList = cc)
  (S : Sep w (tellR t h T :: Rs) W) (hT : T.out.length ≤ 65536) :
  Calls Tryz.prog 168 #[.pointer (some ⟨t, 0, none⟩), .string sg, .int .i64 ps.length, .func (.func 167) #[] #[x1, x2, x3]] W fun e W' => e = .returned (.tuple #[]) ∧ Sep w (tellR t h (rowF oc cc ps T) :: Rs) W' := by
 have hs3 : (1 : Int) ≤ sg.size := by omega
 have e1 : (sg.extract 0 1).size ≤ 1000000 := by simp; omega
 have e2 : (sg.extract 1 sg.size).size ≤ 1000000 := by simp; omega
 have K1 := say_ok S 0 rfl (sg.extract 0 1) e1 hT
 rw [hoc] at K1
 simp only [List.set_cons_zero] at K1
 have K2 : Hid (∀ {W : World} {T : TelM}, Sep w (tellR t h T :: Rs) W → T.out.length ≤ 65536 → Calls Tryz.prog 165 #[.pointer (some ⟨t, 0, none⟩), .string (sg.extract 1 sg.size)] W fun e W' => e = .returned (.tuple #[]) ∧ Sep w (tellR t h (T.say cc) :: Rs) W') := Lib.hid fun S hT => by
  have := say_ok S 0 rfl (sg.extract 1 sg.size) e2 hT
  rw [hcc] at this; exact this
 have K3 : Hid (∀ {W : World} {T : TelM}, Sep w (tellR t h T :: Rs) W → T.out.length ≤ 65536 → Calls Tryz.prog 165 #[.pointer (some ⟨t, 0, none⟩), .string ⟨#[44, 32]⟩] W fun e W' => e = .returned (.tuple #[]) ∧ Sep w (tellR t h (T.say [44, 32]) :: Rs) W') := Lib.hid fun S hT => say_ok S 0 rfl ⟨#[44, 32]⟩ (by decide) hT
 obtain ⟨T1, hT1⟩ : ∃ T1, T.say oc = T1 := ⟨_, rfl⟩
 have hT2 : T1.out.length ≤ 65536 := by rw [← hT1]; exact TelM.say_out _ hT
 rw [hT1] at K1
 have HR : Hid (rowF oc cc ps T = (partsF true ps T1).say cc) := Lib.hid (by unfold rowF; rw [hT1])
 have HO : Hid (∀ k, k ≤ ps.length → (partsF true (ps.take k) T1).out.length ≤ 65536) := Lib.hid fun k => by
  induction k with
  | zero => intro _; exact hT2
  | succ k ih =>
   intro hk
   have hk1 : ps[k]? = some (ps[k]'(by omega)) := by simp
   rw [partsF_snoc k ps _ T1 hk1]
   have hm := List.mem_of_getElem? hk1
   by_cases h0 : k = 0
   ·
    rw [if_pos h0]; exact ho _ hm _ (ih (by omega))
   ·
    rw [if_neg h0]; exact ho _ hm _ (TelM.say_out _ (ih (by omega)))
 have HE : Hid (∀ k, (partsF true (ps.take k) T1).fell ≠ .no → partsF true ps T1 = partsF true (ps.take k) T1) := Lib.hid fun k hk => by
  rw [partsF_rest k true ps T1]
  exact partsF_fell _ _ hk fun p hp T h2 => hf p (List.mem_of_mem_drop hp) T h2
 have hpi : (ps.length : Int) ≤ 9223372036854775807 := by omega
 have HP := Lib.hid hp
 have K1 := Lib.hid K1
 clear S hT hT1 hT2 hoc hcc hp ho hf e1 e2 hpl hs1 hs2
 go_enter Tryz.func168, Tryz.ntmps168
 go_wp2_with fail
 refine K1.out.mono ?_
 rintro e w1 ⟨rfl, S1⟩
 have H1 := Lib.hid S1
 clear K1 S1
 go_wp2
 go_loopw [14] (fun kv wr => ∃ k : Nat, k ≤ ps.length ∧ kv = .int .i64 k ∧ Sep w (tellR t h (partsF true (ps.take k) T1) :: Rs) wr) (fun kv _ => ps.length - (intOf kv).toNat)
 case atStart => exact ⟨0, by omega, rfl, by have := H1.out; simpa [partsF] using this⟩
 case round =>
  clear H1
  obtain ⟨k, hk, rfl, S⟩ := hrel
  have hki : (k : Int) ≤ ps.length := by omega
  have hk0 : (0 : Int) ≤ k := by omega
  have hTk := HO.out k hk
  obtain ⟨Tk, hTkd⟩ : ∃ Tk, partsF true (ps.take k) T1 = Tk := ⟨_, rfl⟩
  rw [hTkd] at S hTk
  by_cases hlt : k < ps.length
  ·
   have hlti : (k : Int) < ps.length := by omega
   obtain ⟨p, hpk⟩ : ∃ p, ps[k]? = some p := ⟨ps[k], by simp [hlt]⟩
   have HK := Lib.hid (And.intro hpk (And.intro hlt (And.intro hTkd hTk)))
   obtain ⟨pq, vq, hq1, hq2, hq3, -⟩ := S.telB 0 rfl
   have HS := Lib.hid S
   cases hfl : Tk.fell with
   | no =>
    rw [hfl] at hq2
    have c2 := cellAt hq2 3 (v := .string ⟨#[]⟩) rfl
    have HF := Lib.hid hfl
    have DN : Hid (∀ wx, Sep w (tellR t h (p (if k = 0 then Tk else Tk.say [44, 32])) :: Rs) wx → Sep w (tellR t h (partsF true (ps.take (k + 1)) T1) :: Rs) wx) := Lib.hid fun wx S => by rw [partsF_snoc k ps p T1 HK.out.1, HK.out.2.2.1]; exact S
    clear S hpk hlt hTkd hTk hfl hq1 hq2 hq3 hk
    by_cases hk1 : k = 0
    ·
     subst hk1
     have K4 := Lib.hid (HP.out 0 p HK.out.1 HS.out HK.out.2.2.2)
     go_wp2_with fail
     refine K4.out.mono ?_
     rintro e w3 ⟨rfl, S3⟩
     have S4 := Lib.hid (DN.out _ S3)
     clear K4 S3 HS c2
     go_wp2
     exact ⟨⟨0 + 1, by have := HK.out.2.1; omega, by go_num, S4.out⟩, by have := HK.out.2.1; simp [intOf]; omega⟩
    ·
     have hk2 : (0 : Int) < k := by omega
     have K4 := Lib.hid (K3.out HS.out HK.out.2.2.2)
     go_wp2_with fail
     refine K4.out.mono ?_
     rintro e w3 ⟨rfl, S3⟩
     have K5 := Lib.hid (HP.out k p HK.out.1 S3 (TelM.say_out _ HK.out.2.2.2))
     clear K4 S3 HS c2
     go_wp2_with fail
     refine K5.out.mono ?_
     rintro e w4 ⟨rfl, S4⟩
     have S5 := Lib.hid (DN.out _ (by rw [if_neg hk1]; exact S4))
     clear K5 S4
     go_wp2
     exact ⟨⟨k + 1, by have := HK.out.2.1; omega, by go_num, S5.out⟩, by have := HK.out.2.1; simp [intOf]; omega⟩
   | memory =>
    rw [hfl] at hq2
    have c2 := cellAt hq2 3 (v := .string memoryError) rfl
    have hfx : Tk.fell ≠ .no := by rw [hfl]; intro hh; cases hh
    have DN : Hid (rowF oc cc ps T = Tk) := Lib.hid (by rw [HR.out, HE.out k (by rw [hTkd]; exact hfx), hTkd]; exact TelM.say_fell hfx _)
    clear S hpk hlt hTkd hTk hfl hq1 hq2 hq3 hk hfx
    go_wp2
    first | go_end0 | go_returns
    rw [DN.out]
    exact ⟨rfl, HS.out⟩
   | deep =>
    rw [hfl] at hq2
    have c2 := cellAt hq2 3 (v := .string recursionError) rfl
    have hfx : Tk.fell ≠ .no := by rw [hfl]; intro hh; cases hh
    have DN : Hid (rowF oc cc ps T = Tk) := Lib.hid (by rw [HR.out, HE.out k (by rw [hTkd]; exact hfx), hTkd]; exact TelM.say_fell hfx _)
    clear S hpk hlt hTkd hTk hfl hq1 hq2 hq3 hk hfx
    go_wp2
    first | go_end0 | go_returns
    rw [DN.out]
    exact ⟨rfl, HS.out⟩
  ·
   have hkn : k = ps.length := by omega
   rw [hkn, List.take_length] at hTkd
   have hkx : ¬ (k : Int) < ps.length := by omega
   have K4 := Lib.hid (K2.out S hTk)
   have DN : Hid (rowF oc cc ps T = Tk.say cc) := Lib.hid (by rw [HR.out, hTkd])
   clear S hTk hTkd hkn hk hlt
   go_wp2_with fail
   refine K4.out.mono ?_
   rintro e w3 ⟨rfl, S3⟩
   have HS := Lib.hid S3
   clear K4 S3
   go_wp2
   go_end0
   rw [DN.out]
   exact ⟨rfl, HS.out⟩
theorem row2_ok (x1 x2 x3 x4 x5 : Value) (ps : List (TelM → TelM)) (hpl : ps.length ≤ 9223372036854775807)
  (hp : ∀ (k : Nat) (p : TelM → TelM), ps[k]? = some p → ∀ {W : World} {T : TelM}, Sep w (tellR t h T :: Rs) W → T.out.length ≤ 65536 → Calls Tryz.prog 169 #[.int .i64 k, x1, x2, x3, x4, x5] W fun e W' => e = .returned (.tuple #[]) ∧ Sep w (tellR t h (p T) :: Rs) W')
  (ho : ∀ p ∈ ps, ∀ T : TelM, T.out.length ≤ 65536 → (p T).out.length ≤ 65536) (hf : ∀ p ∈ ps, ∀ T : TelM, T.fell ≠ .no → p T = T)
  (sg : ByteArray) (hs1 : 1 ≤ sg.size) (hs2 : sg.size ≤ 10) (oc cc : List UInt8) (hoc : (sg.extract 0 1).data.toList = oc) (hcc : (sg.extract 1 sg.size).data.toList = cc)
  (S : Sep w (tellR t h T :: Rs) W) (hT : T.out.length ≤ 65536) :
  Calls Tryz.prog 168 #[.pointer (some ⟨t, 0, none⟩), .string sg, .int .i64 ps.length, .func (.func 169) #[] #[x1, x2, x3, x4, x5]] W fun e W' => e = .returned (.tuple #[]) ∧ Sep w (tellR t h (rowF oc cc ps T) :: Rs) W' := by
 have hs3 : (1 : Int) ≤ sg.size := by omega
 have e1 : (sg.extract 0 1).size ≤ 1000000 := by simp; omega
 have e2 : (sg.extract 1 sg.size).size ≤ 1000000 := by simp; omega
 have K1 := say_ok S 0 rfl (sg.extract 0 1) e1 hT
 rw [hoc] at K1
 simp only [List.set_cons_zero] at K1
 have K2 : Hid (∀ {W : World} {T : TelM}, Sep w (tellR t h T :: Rs) W → T.out.length ≤ 65536 → Calls Tryz.prog 165 #[.pointer (some ⟨t, 0, none⟩), .string (sg.extract 1 sg.size)] W fun e W' => e = .returned (.tuple #[]) ∧ Sep w (tellR t h (T.say cc) :: Rs) W') := Lib.hid fun S hT => by
  have := say_ok S 0 rfl (sg.extract 1 sg.size) e2 hT
  rw [hcc] at this; exact this
 have K3 : Hid (∀ {W : World} {T : TelM}, Sep w (tellR t h T :: Rs) W → T.out.length ≤ 65536 → Calls Tryz.prog 165 #[.pointer (some ⟨t, 0, none⟩), .string ⟨#[44, 32]⟩] W fun e W' => e = .returned (.tuple #[]) ∧ Sep w (tellR t h (T.say [44, 32]) :: Rs) W') := Lib.hid fun S hT => say_ok S 0 rfl ⟨#[44, 32]⟩ (by decide) hT
 obtain ⟨T1, hT1⟩ : ∃ T1, T.say oc = T1 := ⟨_, rfl⟩
 have hT2 : T1.out.length ≤ 65536 := by rw [← hT1]; exact TelM.say_out _ hT
 rw [hT1] at K1
 have HR : Hid (rowF oc cc ps T = (partsF true ps T1).say cc) := Lib.hid (by unfold rowF; rw [hT1])
 have HO : Hid (∀ k, k ≤ ps.length → (partsF true (ps.take k) T1).out.length ≤ 65536) := Lib.hid fun k => by
  induction k with
  | zero => intro _; exact hT2
  | succ k ih =>
   intro hk
   have hk1 : ps[k]? = some (ps[k]'(by omega)) := by simp
   rw [partsF_snoc k ps _ T1 hk1]
   have hm := List.mem_of_getElem? hk1
   by_cases h0 : k = 0
   ·
    rw [if_pos h0]; exact ho _ hm _ (ih (by omega))
   ·
    rw [if_neg h0]; exact ho _ hm _ (TelM.say_out _ (ih (by omega)))
 have HE : Hid (∀ k, (partsF true (ps.take k) T1).fell ≠ .no → partsF true ps T1 = partsF true (ps.take k) T1) := Lib.hid fun k hk => by
  rw [partsF_rest k true ps T1]
  exact partsF_fell _ _ hk fun p hp T h2 => hf p (List.mem_of_mem_drop hp) T h2
 have hpi : (ps.length : Int) ≤ 9223372036854775807 := by omega
 have HP := Lib.hid hp
 have K1 := Lib.hid K1
 clear S hT hT1 hT2 hoc hcc hp ho hf e1 e2 hpl hs1 hs2
 go_enter Tryz.func168, Tryz.ntmps168
 go_wp2_with fail
 refine K1.out.mono ?_
 rintro e w1 ⟨rfl, S1⟩
 have H1 := Lib.hid S1
 clear K1 S1
 go_wp2
 go_loopw [14] (fun kv wr => ∃ k : Nat, k ≤ ps.length ∧ kv = .int .i64 k ∧ Sep w (tellR t h (partsF true (ps.take k) T1) :: Rs) wr) (fun kv _ => ps.length - (intOf kv).toNat)
 case atStart => exact ⟨0, by omega, rfl, by have := H1.out; simpa [partsF] using this⟩
 case round =>
  clear H1
  obtain ⟨k, hk, rfl, S⟩ := hrel
  have hki : (k : Int) ≤ ps.length := by omega
  have hk0 : (0 : Int) ≤ k := by omega
  have hTk := HO.out k hk
  obtain ⟨Tk, hTkd⟩ : ∃ Tk, partsF true (ps.take k) T1 = Tk := ⟨_, rfl⟩
  rw [hTkd] at S hTk
  by_cases hlt : k < ps.length
  ·
   have hlti : (k : Int) < ps.length := by omega
   obtain ⟨p, hpk⟩ : ∃ p, ps[k]? = some p := ⟨ps[k], by simp [hlt]⟩
   have HK := Lib.hid (And.intro hpk (And.intro hlt (And.intro hTkd hTk)))
   obtain ⟨pq, vq, hq1, hq2, hq3, -⟩ := S.telB 0 rfl
   have HS := Lib.hid S
   cases hfl : Tk.fell with
   | no =>
    rw [hfl] at hq2
    have c2 := cellAt hq2 3 (v := .string ⟨#[]⟩) rfl
    have HF := Lib.hid hfl
    have DN : Hid (∀ wx, Sep w (tellR t h (p (if k = 0 then Tk else Tk.say [44, 32])) :: Rs) wx → Sep w (tellR t h (partsF true (ps.take (k + 1)) T1) :: Rs) wx) := Lib.hid fun wx S => by rw [partsF_snoc k ps p T1 HK.out.1, HK.out.2.2.1]; exact S
    clear S hpk hlt hTkd hTk hfl hq1 hq2 hq3 hk
    by_cases hk1 : k = 0
    ·
     subst hk1
     have K4 := Lib.hid (HP.out 0 p HK.out.1 HS.out HK.out.2.2.2)
     go_wp2_with fail
     refine K4.out.mono ?_
     rintro e w3 ⟨rfl, S3⟩
     have S4 := Lib.hid (DN.out _ S3)
     clear K4 S3 HS c2
     go_wp2
     exact ⟨⟨0 + 1, by have := HK.out.2.1; omega, by go_num, S4.out⟩, by have := HK.out.2.1; simp [intOf]; omega⟩
    ·
     have hk2 : (0 : Int) < k := by omega
     have K4 := Lib.hid (K3.out HS.out HK.out.2.2.2)
     go_wp2_with fail
     refine K4.out.mono ?_
     rintro e w3 ⟨rfl, S3⟩
     have K5 := Lib.hid (HP.out k p HK.out.1 S3 (TelM.say_out _ HK.out.2.2.2))
     clear K4 S3 HS c2
     go_wp2_with fail
     refine K5.out.mono ?_
     rintro e w4 ⟨rfl, S4⟩
     have S5 := Lib.hid (DN.out _ (by rw [if_neg hk1]; exact S4))
     clear K5 S4
     go_wp2
     exact ⟨⟨k + 1, by have := HK.out.2.1; omega, by go_num, S5.out⟩, by have := HK.out.2.1; simp [intOf]; omega⟩
   | memory =>
    rw [hfl] at hq2
    have c2 := cellAt hq2 3 (v := .string memoryError) rfl
    have hfx : Tk.fell ≠ .no := by rw [hfl]; intro hh; cases hh
    have DN : Hid (rowF oc cc ps T = Tk) := Lib.hid (by rw [HR.out, HE.out k (by rw [hTkd]; exact hfx), hTkd]; exact TelM.say_fell hfx _)
    clear S hpk hlt hTkd hTk hfl hq1 hq2 hq3 hk hfx
    go_wp2
    first | go_end0 | go_returns
    rw [DN.out]
    exact ⟨rfl, HS.out⟩
   | deep =>
    rw [hfl] at hq2
    have c2 := cellAt hq2 3 (v := .string recursionError) rfl
    have hfx : Tk.fell ≠ .no := by rw [hfl]; intro hh; cases hh
    have DN : Hid (rowF oc cc ps T = Tk) := Lib.hid (by rw [HR.out, HE.out k (by rw [hTkd]; exact hfx), hTkd]; exact TelM.say_fell hfx _)
    clear S hpk hlt hTkd hTk hfl hq1 hq2 hq3 hk hfx
    go_wp2
    first | go_end0 | go_returns
    rw [DN.out]
    exact ⟨rfl, HS.out⟩
  ·
   have hkn : k = ps.length := by omega
   rw [hkn, List.take_length] at hTkd
   have hkx : ¬ (k : Int) < ps.length := by omega
   have K4 := Lib.hid (K2.out S hTk)
   have DN : Hid (rowF oc cc ps T = Tk.say cc) := Lib.hid (by rw [HR.out, hTkd])
   clear S hTk hTkd hkn hk hlt
   go_wp2_with fail
   refine K4.out.mono ?_
   rintro e w3 ⟨rfl, S3⟩
   have HS := Lib.hid S3
   clear K4 S3
   go_wp2
   go_end0
   rw [DN.out]
   exact ⟨rfl, HS.out⟩
end
end Go.Proofs.YtijlebhoapdfnaaGreat
/- ch 16: tell's closures. -/
namespace Go.Proofs.YtijlebhoapdfnaaGreat
set_option linter.unusedSimpArgs false
open Go.RowKit
set_option linter.unusedVariables false
abbrev ptB (b t : Nat) : Res := boxR b (.cells #[.pointer (some ⟨t, 0, none⟩)] 138)
abbrev inB (b : Nat) (d : Int) : Res := boxR b (.cells #[.int .i64 d] 3)
abbrev slV (b : Nat) (v : Value) : Res := boxR b (.cells #[v] 56)
abbrev fnB (b : Nat) (v : Value) : Res := boxR b (.cells #[v] 125)
theorem Sep.front {w W : World} {A Rs : List Res} {R : Res} (S : Sep w (A ++ R :: Rs) W) : Sep w (R :: (A ++ Rs)) W := S.perm List.perm_middle
theorem HeapM.tellF_out {H : HeapM} : ∀ (f : Nat) (v : V) (T : TelM), T.out.length ≤ 65536 → (H.tellF f v T).out.length ≤ 65536 := by
 have hp : ∀ (l : List (TelM → TelM)) (first : Bool) (T : TelM), (∀ p ∈ l, ∀ T : TelM, T.out.length ≤ 65536 → (p T).out.length ≤ 65536) → T.out.length ≤ 65536 → (partsF first l T).out.length ≤ 65536 := by
  intro l
  induction l with
  | nil => intro first T _ hT; exact hT
  | cons p l ih =>
   intro first T hl hT
   refine ih false _ (fun q hq => hl q (by simp [hq])) (hl p (by simp) _ ?_)
   split
   ·
    exact hT
   ·
    exact TelM.say_out _ hT
 have hr : ∀ (o c : List UInt8) (l : List (TelM → TelM)) (T : TelM), (∀ p ∈ l, ∀ T : TelM, T.out.length ≤ 65536 → (p T).out.length ≤ 65536) → T.out.length ≤ 65536 → (rowF o c l T).out.length ≤ 65536 := fun o c l T hl hT => TelM.say_out _ (hp l true _ hl (TelM.say_out _ hT))
 have ht : ∀ (v : V) (T r : TelM), T.out.length ≤ 65536 → r.out.length ≤ 65536 → (H.tellT v T r).out.length ≤ 65536 := fun v T r h1 h2 => by
  unfold HeapM.tellT
  split
  ·
   split
   ·
    exact TelM.say_out _ h1
   ·
    exact h2
  ·
   exact h1
 intro f
 induction f with
 | zero => intro v T hT; exact ht v T _ hT hT
 | succ f ih =>
  intro v T hT
  refine ht v T _ hT ?_
  split
  ·
   exact hr _ _ _ _ (fun p hp => by obtain ⟨x, _, rfl⟩ := List.mem_map.1 hp; exact fun T hT => ih x T hT) hT
  ·
   split
   ·
    exact hr _ _ _ _ (fun p hp => by obtain ⟨x, _, rfl⟩ := List.mem_map.1 hp; exact fun T hT => ih x T hT) hT
   ·
    exact hr _ _ _ _ (fun p hp => by obtain ⟨x, _, rfl⟩ := List.mem_map.1 hp; exact fun T hT => ih _ _ (TelM.say_out _ (ih _ _ hT))) hT
section
variable {w W : World} {Rs : List Res} {t h f : Nat} {H : HeapM} {T : TelM} {P : V → Prop}
theorem tell1_ok (IH : ∀ {Rs : List Res} {W : World} {T : TelM} (S : Sep w (tellR t h T :: Rs) W) (i : Nat) (hi : Rs[i]? = some (heapR h H)) (hT : T.out.length ≤ 65536) (v : V) (hv : P v) (d : Int) (hd : d + f = 30) (hd0 : 0 ≤ d),
      Calls Tryz.prog 124 #[.pointer (some ⟨t, 0, none⟩), .agg #[.int .i64 v.kind, .int .i64 v.n, .string v.s], .int .i64 d] W fun e W' => e = .returned (.tuple #[]) ∧ Sep w (tellR t h (H.tellF f v T) :: Rs) W')
  (i : Nat) (hi : Rs[i]? = some (heapR h H)) (b q5 q6 : Nat) (la : Option Addr) (lc : Nat) (l : List V) (d : Int) (hd : d + 1 + f = 30) (hd0 : 0 ≤ d + 1)
  (i1 : Nat) (h1 : Rs[i1]? = some (ptB b t)) (i2 : Nat) (h2 : Rs[i2]? = some (slV q6 (.slice la l.length lc))) (i3 : Nat) (h3 : Rs[i3]? = some (inB q5 d)) (i4 : Nat) (h4 : Rs[i4]? = some (valsR (.slice la l.length lc) l))
  (k : Nat) (x : V) (hx : l[k]? = some x) (hv : P x) (S : Sep w (tellR t h T :: Rs) W) (hT : T.out.length ≤ 65536) :
  Calls Tryz.prog 167 #[.int .i64 k, .pointer (some ⟨b, 0, none⟩), .pointer (some ⟨q6, 0, none⟩), .pointer (some ⟨q5, 0, none⟩)] W fun e W' => e = .returned (.tuple #[]) ∧ Sep w (tellR t h (H.tellF f x T) :: Rs) W' := by
 obtain ⟨g, og, rfl, -⟩ := (S.row (i4 + 1) (by simpa using h4)).sees'.three hx
 have KB : Hid (∀ W (Q : List Res) (T : TelM), Sep w (tellR t h T :: Rs) W → W.cell? ⟨b, 0, none⟩ = some (.pointer (some ⟨t, 0, none⟩)) ∧ W.cell? ⟨q6, 0, none⟩ = some (.slice (some ⟨g, og, none⟩) l.length lc) ∧ W.cell? ⟨q5, 0, none⟩ = some (.int .i64 d) ∧ W.cell? ⟨g, og + k * 3, none⟩ = some (.int .i64 x.kind) ∧ W.cell? ⟨g, og + k * 3 + 1, none⟩ = some (.int .i64 x.n) ∧ W.cell? ⟨g, og + k * 3 + 2, none⟩ = some (.string x.s)) := Lib.hid fun W Q T S =>
  ⟨cellAt (S.box (i1 + 1) (by simpa using h1)) 0 rfl, cellAt (S.box (i2 + 1) (by simpa using h2)) 0 rfl, cellAt (S.box (i3 + 1) (by simpa using h3)) 0 rfl, sepThree S (i4 + 1) (by simpa using h4) hx⟩
 have hkl : (k : Int) < l.length := by have := (List.getElem?_eq_some_iff.1 hx).1; omega
 have hk0 : (0 : Int) ≤ k := by omega
 have hwr : IntKind.i64.wrap (d + 1) = d + 1 := IntWalk.i64_in _ (by omega)
 have KT : Hid (∀ W, Sep w (tellR t h T :: Rs) W → Calls Tryz.prog 124 #[.pointer (some ⟨t, 0, none⟩), .agg #[.int .i64 x.kind, .int .i64 x.n, .string x.s], .int .i64 (d + 1)] W fun e W' => e = .returned (.tuple #[]) ∧ Sep w (tellR t h (H.tellF f x T) :: Rs) W') := Lib.hid fun W S => IH S i hi hT x hv (d + 1) hd hd0
 have T0 := S.drew
 clear S IH hi h1 h2 h3 h4 hx hv hd hd0
 go_enter Tryz.func167, Tryz.ntmps167
 refine wp_region_held_drew (S := fun W => W.cell? ⟨b, 0, none⟩ = some (.pointer (some ⟨t, 0, none⟩)) ∧ W.cell? ⟨q6, 0, none⟩ = some (.slice (some ⟨g, og, none⟩) l.length lc) ∧ W.cell? ⟨q5, 0, none⟩ = some (.int .i64 d) ∧ W.cell? ⟨g, og + k * 3, none⟩ = some (.int .i64 x.kind) ∧ W.cell? ⟨g, og + k * 3 + 1, none⟩ = some (.int .i64 x.n) ∧ W.cell? ⟨g, og + k * 3 + 2, none⟩ = some (.string x.s)) (by kernel_rfl) (KB.out _ [] _ T0) (fun hH => ?_)
 refine takeT 0 hH (hy := .inl ⟨by rfl, by (intro w hSw; try obtain ⟨u0, u1, u2, u3, u4, u5⟩ := hSw); (go_simp; try rfl)⟩) (h := ?_)
 simp only [pu]
 refine takeT 1 hH (hy := .inl ⟨by rfl, by (intro w hSw; try obtain ⟨u0, u1, u2, u3, u4, u5⟩ := hSw); (go_simp; try rfl)⟩) (h := ?_)
 simp only [pu]
 refine takeT 2 hH (hy := .inl ⟨by rfl, by (intro w hSw; try obtain ⟨u0, u1, u2, u3, u4, u5⟩ := hSw); (go_simp; try rfl)⟩) (h := ?_)
 simp only [pu]
 refine takeT 3 hH (hy := .inl ⟨by rfl, by (intro w hSw; try obtain ⟨u0, u1, u2, u3, u4, u5⟩ := hSw); (go_simp; try rfl)⟩) (h := ?_)
 simp only [pu]
 refine takeT 4 hH (hy := .inl ⟨by rfl, by (intro w hSw; try obtain ⟨u0, u1, u2, u3, u4, u5⟩ := hSw); (go_simp; try rfl)⟩) (h := ?_)
 simp only [pu]
 refine takeT 5 hH (hy := .inl ⟨by rfl, by (intro w hSw; try obtain ⟨u0, u1, u2, u3, u4, u5⟩ := hSw); (go_simp; try rfl)⟩) (h := ?_)
 simp only [pu]
 refine takeT 6 hH (hy := .inl ⟨by rfl, by (intro w hSw; try obtain ⟨u0, u1, u2, u3, u4, u5⟩ := hSw); (go_simp; try rfl)⟩) (h := ?_)
 simp only [pu]
 refine readyT [7] ?_
 refine consT (fun K hK => ?_) AllReadyH.nil
 go_simp
 go_wp2_with (go_at_call 124; refine (KT.out _ T0).mono ?_; rintro e w1 ⟨rfl, T1⟩)
 clear hH
 refine hK.out _ _ (KB.out _ [] _ T1) (fun hH => ?_)
 clear hK K
 refine wpAnyH_done (by kernel_rfl) ?_ _
 as_aux_lemma =>
  go_wp2_with fail
  first | go_end0 | go_returns
  exact ⟨rfl, T1⟩
theorem tell2_ok (IH : ∀ {Rs : List Res} {W : World} {T : TelM} (S : Sep w (tellR t h T :: Rs) W) (i : Nat) (hi : Rs[i]? = some (heapR h H)) (hT : T.out.length ≤ 65536) (v : V) (hv : P v) (d : Int) (hd : d + f = 30) (hd0 : 0 ≤ d),
      Calls Tryz.prog 124 #[.pointer (some ⟨t, 0, none⟩), .agg #[.int .i64 v.kind, .int .i64 v.n, .string v.s], .int .i64 d] W fun e W' => e = .returned (.tuple #[]) ∧ Sep w (tellR t h (H.tellF f v T) :: Rs) W')
  (i : Nat) (hi : Rs[i]? = some (heapR h H)) (b q4 q5 q6 q7 : Nat) (v : V) (la : Option Addr) (lc : Nat) (l : List V) (d : Int) (hd : d + 1 + f = 30) (hd0 : 0 ≤ d + 1)
  (i1 : Nat) (h1 : Rs[i1]? = some (ptB b t)) (i2 : Nat) (h2 : Rs[i2]? = some (slV q6 (.slice la l.length lc))) (i3 : Nat) (h3 : Rs[i3]? = some (inB q5 d)) (i4 : Nat) (h4 : Rs[i4]? = some (valsR (.slice la l.length lc) l))
  (i5 : Nat) (h5 : Rs[i5]? = some (boxV q4 v)) (i6 : Nat) (h6 : Rs[i6]? = some (fnB q7 (.func (.func 167) #[] #[.pointer (some ⟨b, 0, none⟩), .pointer (some ⟨q6, 0, none⟩), .pointer (some ⟨q5, 0, none⟩)])))
  (k : Nat) (x y : V) (hx : l[k]? = some x) (hv : P x) (hy : (H.get v x).getD V.zero = y) (hv2 : P y) (S : Sep w (tellR t h T :: Rs) W) (hT : T.out.length ≤ 65536) :
  Calls Tryz.prog 169 #[.int .i64 k, .pointer (some ⟨b, 0, none⟩), .pointer (some ⟨q4, 0, none⟩), .pointer (some ⟨q6, 0, none⟩), .pointer (some ⟨q7, 0, none⟩), .pointer (some ⟨q5, 0, none⟩)] W fun e W' => e = .returned (.tuple #[]) ∧ Sep w (tellR t h (H.tellF f y ((H.tellF f x T).say [58, 32])) :: Rs) W' := by
 obtain ⟨g, og, rfl, -⟩ := (S.row (i4 + 1) (by simpa using h4)).sees'.three hx
 refine named (tellR t h T :: Rs) fun baseA hbaseA => ?_
 have HbaseA := Lib.hid hbaseA
 have KB : Hid (∀ W (Q : List Res), Sep w (Q ++ baseA) W → W.cell? ⟨b, 0, none⟩ = some (.pointer (some ⟨t, 0, none⟩)) ∧ W.cell? ⟨q6, 0, none⟩ = some (.slice (some ⟨g, og, none⟩) l.length lc) ∧ W.cell? ⟨g, og + k * 3, none⟩ = some (.int .i64 x.kind) ∧ W.cell? ⟨g, og + k * 3 + 1, none⟩ = some (.int .i64 x.n) ∧ W.cell? ⟨g, og + k * 3 + 2, none⟩ = some (.string x.s) ∧ W.cell? ⟨q4, 0, none⟩ = some (.int .i64 v.kind) ∧ W.cell? ⟨q4, 1, none⟩ = some (.int .i64 v.n) ∧ W.cell? ⟨q4, 2, none⟩ = some (.string v.s) ∧ W.cell? ⟨t, 0, none⟩ = some (.pointer (some ⟨h, 0, none⟩))) := Lib.hid fun W Q S => by
  rw [hbaseA] at S
  have hj : ∀ {j : Nat} {R : Res}, Rs[j]? = some R → (Q ++ tellR t h T :: Rs)[Q.length + (j + 1)]? = some R := fun hh => by rw [List.getElem?_append_right (by omega), Nat.add_sub_cancel_left]; simpa using hh
  obtain ⟨p, vq, _, e2, _⟩ := S.telB Q.length (by rw [List.getElem?_append_right (by omega), Nat.sub_self]; rfl)
  obtain ⟨a1, a2, a3⟩ := sepThree S _ (hj h4) hx
  have c4 := S.box _ (hj h5)
  exact ⟨cellAt (S.box _ (hj h1)) 0 rfl, cellAt (S.box _ (hj h2)) 0 rfl, a1, a2, a3, cellAt c4 0 rfl, cellAt c4 1 rfl, cellAt c4 2 rfl, cellAt e2 0 rfl⟩
 have KG : Hid (∀ W (Q : List Res), Sep w (Q ++ baseA) W → Calls Tryz.prog 80 #[.pointer (some ⟨h, 0, none⟩), .agg #[.int .i64 v.kind, .int .i64 v.n, .string v.s], .agg #[.int .i64 x.kind, .int .i64 x.n, .string x.s]] W fun e W' => e = .returned (.tuple #[.agg #[.int .i64 y.kind, .int .i64 y.n, .string y.s], .bool (H.get v x).isSome]) ∧ Sep w (Q ++ baseA) W') := Lib.hid fun W Q S => by
  rw [hbaseA] at S ⊢
  exact get_at S (Q.length + (i + 1)) (by rw [List.getElem?_append_right (by omega), Nat.add_sub_cancel_left]; simpa using hi) v x y _ hy rfl
 have hkl : (k : Int) < l.length := by have := (List.getElem?_eq_some_iff.1 hx).1; omega
 have hk0 : (0 : Int) ≤ k := by omega
 have hwr : IntKind.i64.wrap (d + 1) = d + 1 := IntWalk.i64_in _ (by omega)
 have K1 : Hid (∀ (qx : Nat) (cs : Array Value) (W : World), Sep w (tellR t h T :: boxR qx (.cells cs 24) :: Rs) W → Calls Tryz.prog 167 #[.int .i64 k, .pointer (some ⟨b, 0, none⟩), .pointer (some ⟨q6, 0, none⟩), .pointer (some ⟨q5, 0, none⟩)] W fun e W' => e = .returned (.tuple #[]) ∧ Sep w (tellR t h (H.tellF f x T) :: boxR qx (.cells cs 24) :: Rs) W') := Lib.hid fun qx cs W S =>
  tell1_ok IH (i + 1) (by simpa using hi) b q5 q6 _ lc l d hd hd0 (i1 + 1) (by simpa using h1) (i2 + 1) (by simpa using h2) (i3 + 1) (by simpa using h3) (i4 + 1) (by simpa using h4) k x hx hv S hT
 have KT : Hid (∀ (T2 : TelM) (qx : Nat) (cs : Array Value) (W : World), T2.out.length ≤ 65536 → Sep w (tellR t h T2 :: boxR qx (.cells cs 24) :: Rs) W → Calls Tryz.prog 124 #[.pointer (some ⟨t, 0, none⟩), .agg #[.int .i64 y.kind, .int .i64 y.n, .string y.s], .int .i64 (d + 1)] W fun e W' => e = .returned (.tuple #[]) ∧ Sep w (tellR t h (H.tellF f y T2) :: boxR qx (.cells cs 24) :: Rs) W') := Lib.hid fun T2 qx cs W hT2 S => IH S (i + 1) (by simpa using hi) hT2 y hv2 (d + 1) hd hd0
 have HT := Lib.hid hT
 have HJ := Lib.hid (And.intro h1 (And.intro h3 h6))
 replace S : Hid (Sep w ([] ++ baseA) W.drew) := Lib.hid (by rw [hbaseA]; exact S.drew)
 clear IH hi h1 h2 h3 h4 h5 h6 hx hv hv2 hy hd hd0 hbaseA hT
 go_enter Tryz.func169, Tryz.ntmps169
 go_upto_region 0 with fail
 go_cut [7] (fun s7 wx => ∃ qx, s7 = .pointer (some ⟨qx, 0, none⟩) ∧ Sep w ([boxV qx y] ++ baseA) wx)
 case first =>
  have T0 := S.out
  clear S
  refine wp_region_held_drew (S := fun W => W.cell? ⟨b, 0, none⟩ = some (.pointer (some ⟨t, 0, none⟩)) ∧ W.cell? ⟨q6, 0, none⟩ = some (.slice (some ⟨g, og, none⟩) l.length lc) ∧ W.cell? ⟨g, og + k * 3, none⟩ = some (.int .i64 x.kind) ∧ W.cell? ⟨g, og + k * 3 + 1, none⟩ = some (.int .i64 x.n) ∧ W.cell? ⟨g, og + k * 3 + 2, none⟩ = some (.string x.s) ∧ W.cell? ⟨q4, 0, none⟩ = some (.int .i64 v.kind) ∧ W.cell? ⟨q4, 1, none⟩ = some (.int .i64 v.n) ∧ W.cell? ⟨q4, 2, none⟩ = some (.string v.s) ∧ W.cell? ⟨t, 0, none⟩ = some (.pointer (some ⟨h, 0, none⟩))) (by kernel_rfl) (KB.out _ [] T0) (fun hH => ?_)
  refine takeT 0 hH (hy := .inl ⟨by rfl, by (intro w hSw; try obtain ⟨u0, u1, u2, u3, u4, u5, u6, u7, u8⟩ := hSw); (go_simp; try rfl)⟩) (h := ?_)
  simp only [pu]
  refine takeT 1 hH (hy := .inl ⟨by rfl, by (intro w hSw; try obtain ⟨u0, u1, u2, u3, u4, u5, u6, u7, u8⟩ := hSw); (go_simp; try rfl)⟩) (h := ?_)
  simp only [pu]
  refine takeT 2 hH (hy := .inl ⟨by rfl, by (intro w hSw; try obtain ⟨u0, u1, u2, u3, u4, u5, u6, u7, u8⟩ := hSw); (go_simp; try rfl)⟩) (h := ?_)
  simp only [pu]
  refine takeT 3 hH (hy := .inl ⟨by rfl, by (intro w hSw; try obtain ⟨u0, u1, u2, u3, u4, u5, u6, u7, u8⟩ := hSw); (go_simp; try rfl)⟩) (h := ?_)
  simp only [pu]
  refine takeT 4 hH (hy := .inl ⟨by rfl, by (intro w hSw; try obtain ⟨u0, u1, u2, u3, u4, u5, u6, u7, u8⟩ := hSw); (go_simp; try rfl)⟩) (h := ?_)
  simp only [pu]
  refine takeT 5 hH (hy := .inl ⟨by rfl, by (intro w hSw; try obtain ⟨u0, u1, u2, u3, u4, u5, u6, u7, u8⟩ := hSw); (go_simp; try rfl)⟩) (h := ?_)
  simp only [pu]
  refine takeT 6 hH (hy := .inl ⟨by rfl, by (intro w hSw; try obtain ⟨u0, u1, u2, u3, u4, u5, u6, u7, u8⟩ := hSw); (go_simp; try rfl)⟩) (h := ?_)
  simp only [pu]
  refine takeT 7 hH (hy := .inl ⟨by rfl, by (intro w hSw; try obtain ⟨u0, u1, u2, u3, u4, u5, u6, u7, u8⟩ := hSw); (go_simp; try rfl)⟩) (h := ?_)
  simp only [pu]
  refine takeT 8 hH (hy := .inl ⟨by rfl, by (intro w hSw; try obtain ⟨u0, u1, u2, u3, u4, u5, u6, u7, u8⟩ := hSw); (go_simp; try rfl)⟩) (h := ?_)
  simp only [pu]
  refine readyT [9, 13] ?_
  refine consT (fun K hK => ?_) (consT (fun K hK => ?_) AllReadyH.nil)
  ·
   go_simp
   go_wp2_with (go_at_call 80; refine (KG.out _ [] T0).mono ?_; rintro e w1 ⟨rfl, T1⟩)
   clear hH
   refine hK.out _ _ (KB.out _ [] T1) (fun hH => ?_)
   clear hK K
   refine takeT 10 hH (hy := .inl ⟨by rfl, by (intro w hSw; try obtain ⟨u0, u1, u2, u3, u4, u5, u6, u7, u8⟩ := hSw); (go_simp; try rfl)⟩) (h := ?_)
   simp only [pu]
   refine takeT 11 hH (hy := .inl ⟨by rfl, by (intro w hSw; try obtain ⟨u0, u1, u2, u3, u4, u5, u6, u7, u8⟩ := hSw); (go_simp; try rfl)⟩) (h := ?_)
   simp only [pu]
   refine takeT 12 hH (hy := .inl ⟨by rfl, by (intro w hSw; try obtain ⟨u0, u1, u2, u3, u4, u5, u6, u7, u8⟩ := hSw); (go_simp; try rfl)⟩) (h := ?_)
   simp only [pu]
   refine readyT [13] ?_
   refine consT (fun K hK => ?_) AllReadyH.nil
   go_simp
   have T2 : Sep w ([boxZ _] ++ baseA) _ := Sep.alloc T1 (.cells #[.int .i64 0, .int .i64 0, .string ⟨#[]⟩] 24)
   try simp only [size_drew, World.size_alloc] at T2
   clear hH
   refine hK.out _ _ (KB.out _ [_] T2) (fun hH => ?_)
   clear hK K
   refine readyT [14] ?_
   refine consT (fun K hK => ?_) AllReadyH.nil
   have hz := T2.box 0 rfl
   have z0 := cellAt hz 0 (v := .int .i64 0) rfl
   have z1 := cellAt hz 1 (v := .int .i64 0) rfl
   have z2 := cellAt hz 2 (v := .string ⟨#[]⟩) rfl
   have z3 := frozenAt hz 0
   have z4 := frozenAt hz 1
   have z5 := frozenAt hz 2
   try simp only [World.cell?_drew, World.frozen?_drew] at z0 z1 z2 z3 z4 z5
   go_simp
   clear hz z0 z1 z2 z3 z4 z5
   clear hH
   first | (have T3 : Sep w ([boxV _ y] ++ baseA) _ := (Sep.alloc T1 (.cells #[.int .i64 y.kind, .int .i64 y.n, .string y.s] 24)); (try simp only [size_drew, World.size_alloc] at T3); refine hK.out _ _ (KB.out _ [_] T3) (fun hH => ?_)) | (have T3 : Sep w ([boxV _ y] ++ baseA) _ := (Sep.setBox (cs := #[.int .i64 y.kind, .int .i64 y.n, .string ⟨#[]⟩]) (t := 24) (Sep.setBox (cs := #[.int .i64 y.kind, .int .i64 0, .string ⟨#[]⟩]) (t := 24) (Sep.setBox (cs := #[.int .i64 0, .int .i64 0, .string ⟨#[]⟩]) (t := 24) T2 0 rfl 0 (.int .i64 y.kind)) 0 rfl 1 (.int .i64 y.n)) 0 rfl 2 (.string y.s)); (try simp only [size_drew, World.size_alloc] at T3); refine hK.out _ _ (KB.out _ [_] T3) (fun hH => ?_))
   clear hK K
   refine takeT 15 hH (hy := .inl ⟨by rfl, by (intro w hSw; try obtain ⟨u0, u1, u2, u3, u4, u5, u6, u7, u8⟩ := hSw); (go_simp; try rfl)⟩) (h := ?_)
   simp only [pu]
   refine wpAnyH_done (by kernel_rfl) ?_ _
   as_aux_lemma =>
    go_wp2_with fail
    go_meet
    exact ⟨_, rfl, T3⟩
  ·
   go_simp
   have T4 : Sep w ([boxZ _] ++ baseA) _ := Sep.alloc T0 (.cells #[.int .i64 0, .int .i64 0, .string ⟨#[]⟩] 24)
   try simp only [size_drew, World.size_alloc] at T4
   clear hH
   refine hK.out _ _ (KB.out _ [_] T4) (fun hH => ?_)
   clear hK K
   refine readyT [9] ?_
   refine consT (fun K hK => ?_) AllReadyH.nil
   go_simp
   go_wp2_with (go_at_call 80; refine (KG.out _ [_] T4).mono ?_; rintro e w5 ⟨rfl, T5⟩)
   clear hH
   refine hK.out _ _ (KB.out _ [_] T5) (fun hH => ?_)
   clear hK K
   refine takeT 10 hH (hy := .inl ⟨by rfl, by (intro w hSw; try obtain ⟨u0, u1, u2, u3, u4, u5, u6, u7, u8⟩ := hSw); (go_simp; try rfl)⟩) (h := ?_)
   simp only [pu]
   refine takeT 11 hH (hy := .inl ⟨by rfl, by (intro w hSw; try obtain ⟨u0, u1, u2, u3, u4, u5, u6, u7, u8⟩ := hSw); (go_simp; try rfl)⟩) (h := ?_)
   simp only [pu]
   refine takeT 12 hH (hy := .inl ⟨by rfl, by (intro w hSw; try obtain ⟨u0, u1, u2, u3, u4, u5, u6, u7, u8⟩ := hSw); (go_simp; try rfl)⟩) (h := ?_)
   simp only [pu]
   refine readyT [14] ?_
   refine consT (fun K hK => ?_) AllReadyH.nil
   have hz := T5.box 0 rfl
   have z0 := cellAt hz 0 (v := .int .i64 0) rfl
   have z1 := cellAt hz 1 (v := .int .i64 0) rfl
   have z2 := cellAt hz 2 (v := .string ⟨#[]⟩) rfl
   have z3 := frozenAt hz 0
   have z4 := frozenAt hz 1
   have z5 := frozenAt hz 2
   try simp only [World.cell?_drew, World.frozen?_drew] at z0 z1 z2 z3 z4 z5
   go_simp
   clear hz z0 z1 z2 z3 z4 z5
   clear hH
   have T6 : Sep w ([boxV _ y] ++ baseA) _ := (Sep.setBox (cs := #[.int .i64 y.kind, .int .i64 y.n, .string ⟨#[]⟩]) (t := 24) (Sep.setBox (cs := #[.int .i64 y.kind, .int .i64 0, .string ⟨#[]⟩]) (t := 24) (Sep.setBox (cs := #[.int .i64 0, .int .i64 0, .string ⟨#[]⟩]) (t := 24) T5 0 rfl 0 (.int .i64 y.kind)) 0 rfl 1 (.int .i64 y.n)) 0 rfl 2 (.string y.s))
   try simp only [size_drew, World.size_alloc] at T6
   refine hK.out _ _ (KB.out _ [_] T6) (fun hH => ?_)
   clear hK K
   refine takeT 15 hH (hy := .inl ⟨by rfl, by (intro w hSw; try obtain ⟨u0, u1, u2, u3, u4, u5, u6, u7, u8⟩ := hSw); (go_simp; try rfl)⟩) (h := ?_)
   simp only [pu]
   refine wpAnyH_done (by kernel_rfl) ?_ _
   as_aux_lemma =>
    go_wp2_with fail
    go_meet
    exact ⟨_, rfl, T6⟩
 case rest =>
  obtain ⟨qx, rfl, S⟩ := hcut
  rw [HbaseA.out] at S
  replace S : Sep w (tellR t h T :: boxV qx y :: Rs) wc := Sep.swap S
  clear KB KG HbaseA
  have c0 := cellAt (S.box (b := q7) (i6 + 2) (by simpa using HJ.out.2.2)) 0 rfl
  have M := Lib.hid (K1.out _ _ _ S)
  clear S
  go_wp2_with fail
  refine M.out.mono ?_
  rintro e w1 ⟨rfl, S⟩
  clear M c0
  obtain ⟨T1, hT1⟩ : ∃ T1, H.tellF f x T = T1 := ⟨_, rfl⟩
  have hT2 : T1.out.length ≤ 65536 := by rw [← hT1]; exact HeapM.tellF_out f x T HT.out
  rw [hT1] at S
  have HT1 := Lib.hid hT1
  have c0 := cellAt (S.box (b := b) (i1 + 2) (by simpa using HJ.out.1)) 0 (v := .pointer (some ⟨t, 0, none⟩)) rfl
  have M := say_ok S 0 rfl ⟨#[58, 32]⟩ (by decide) hT2
  simp only [List.set_cons_zero] at M
  replace M : Hid (Calls Tryz.prog 165 #[.pointer (some ⟨t, 0, none⟩), .string ⟨#[58, 32]⟩] w1 fun e W' => e = .returned (.tuple #[]) ∧ Sep w (tellR t h (T1.say [58, 32]) :: boxV qx y :: Rs) W') := Lib.hid M
  clear S hT1
  go_wp2_with fail
  refine M.out.mono ?_
  rintro e w2 ⟨rfl, S⟩
  clear M c0
  have hT3 : (T1.say [58, 32]).out.length ≤ 65536 := TelM.say_out _ hT2
  have c0 := cellAt (S.box (b := b) (i1 + 2) (by simpa using HJ.out.1)) 0 (v := .pointer (some ⟨t, 0, none⟩)) rfl
  have c1 := cellAt (S.box (b := q5) (i3 + 2) (by simpa using HJ.out.2.1)) 0 (v := .int .i64 d) rfl
  obtain ⟨d00, d01, d02⟩ := wpVal y (S.box (b := qx) 1 rfl)
  have M := Lib.hid (KT.out _ _ _ _ hT3 S)
  clear S hT2 hT3
  go_wp2_with fail
  refine M.out.mono ?_
  rintro e w3 ⟨rfl, S⟩
  have HS := Lib.hid (S.sub (.cons_cons _ (.cons _ (List.Sublist.refl _))))
  clear M c0 c1 d00 d01 d02 S
  go_wp2
  first | go_end0 | go_returns
  rw [HT1.out]
  exact ⟨rfl, HS.out⟩
end
end Go.Proofs.YtijlebhoapdfnaaGreat
