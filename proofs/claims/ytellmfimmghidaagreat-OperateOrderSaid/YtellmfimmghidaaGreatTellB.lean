/- ch 16: how a value that is no row and no dict is told; a row of parts. -/
import Derived.Test.YtellmfimmghidaaGreatQuoB
import Derived.Test.YtellmfimmghidaaGreatOprC
namespace Go.Proofs.YtellmfimmghidaaGreat
set_option linter.unusedSimpArgs false
open Go.RowKit
set_option linter.unusedVariables false
theorem partsF_rest : ∀ (k : Nat) (first : Bool) (l : List (TelM → TelM)) (t : TelM), partsF first l t = partsF (if k = 0 then first else if (l.take k).isEmpty then first else false) (l.drop k) (partsF first (l.take k) t)
  | 0, first, l, t => by cases l <;> rfl
  | k + 1, first, [], t => by simp [partsF]
  | k + 1, first, p :: l, t => by
    show partsF false l (p (if first = true then t else t.say [44, 32])) = partsF (if k + 1 = 0 then first else if (p :: l.take k).isEmpty then first else false) (l.drop k) (partsF false (l.take k) (p (if first = true then t else t.say [44, 32])))
    rw [partsF_rest k false l _]
    simp
theorem partsF_snoc (k : Nat) (l : List (TelM → TelM)) (p : TelM → TelM) (t : TelM) (h : l[k]? = some p) : partsF true (l.take (k + 1)) t = p (if k = 0 then partsF true (l.take k) t else (partsF true (l.take k) t).say [44, 32]) := by
  rw [List.take_add_one, h, partsF_rest k true (l.take k ++ (some p).toList) t]
  have hk : k < l.length := (List.getElem?_eq_some_iff.1 h).1
  have h1 : (l.take k ++ (some p).toList).take k = l.take k := by rw [List.take_append_of_le_length (by simp; omega), List.take_take, Nat.min_self]
  have h2 : (l.take k ++ (some p).toList).drop k = [p] := by
    rw [List.drop_append_of_le_length (by simp; omega), List.drop_eq_nil_of_le (by simp; omega)]; rfl
  rw [h1, h2]
  by_cases hk0 : k = 0
  · rw [if_pos hk0, if_pos hk0]; rfl
  · have : (l.take k).isEmpty = false := by
      rw [Bool.eq_false_iff]
      intro he
      have := List.isEmpty_iff.1 he
      have := congrArg List.length this
      rw [List.length_take, List.length_nil] at this
      omega
    rw [if_neg hk0, if_neg hk0, this]; rfl
section
variable {w W : World} {Rs : List Res} {t h : Nat} {H : HeapM} {T : TelM}
set_option maxRecDepth 100000 in
set_option maxHeartbeats 2000000 in
/-- None, a bool, an int, a str. -/
theorem plain_ok (S : Sep w Rs W) (v : V) (hk : v.kind = 0 ∨ v.kind = 1 ∨ v.kind = 2 ∨ v.kind = 3) (hs : v.s.size ≤ 100000) :
    Calls Tryz.prog 101 #[.pointer (some ⟨t, 0, none⟩), .agg #[.int .i64 v.kind, .int .i64 v.n, .string v.s]] W fun e W' => e = .returned (.string ⟨(H.plainL v).toArray⟩) ∧ Sep w Rs W' := by
  have hnv := v.hn
  have hdef : H.plainL v = if v.kind = 0 then [78, 111, 110, 101] else if v.kind = 1 then (if v.n ≠ 0 then [84, 114, 117, 101] else [70, 97, 108, 115, 101]) else if v.kind = 2 then textN v.n else quoteL v.s.data.toList := by
    rcases hk with e | e | e | e <;> (unfold HeapM.plainL; simp [e])
  generalize H.plainL v = pl at hdef ⊢
  generalize v.kind = kd at hk hdef ⊢
  generalize v.n = vn at hnv hdef ⊢
  generalize v.s = vs at hs hdef ⊢
  obtain ⟨b, hb⟩ : ∃ gx_, (W.heap.size) = gx_ := ⟨_, rfl⟩
  have S1 := S.alloc (.cells #[.int .i64 kd, .int .i64 vn, .string vs] 29)
  rw [hb] at S1
  have d00 := cellAt (S1.box (b := b) 0 rfl) 0 (v := .int .i64 kd) rfl
  have d01 := cellAt (S1.box (b := b) 0 rfl) 1 (v := .int .i64 vn) rfl
  have d02 := cellAt (S1.box (b := b) 0 rfl) 2 (v := .string vs) rfl
  have HS := Lib.hid S1.tail
  have HV := Lib.hid hnv
  rcases hk with e | e | e | e
  · have HP : Hid (pl = [78, 111, 110, 101]) := Lib.hid (by rw [hdef]; simp [e])
    subst e
    clear S S1 hdef
    go_enter Tryz.func101, Tryz.ntmps101
    go_wp2
    go_ret
    rw [HP.out]
    exact ⟨rfl, HS.out⟩
  · by_cases hn : vn = 0
    · have HP : Hid (pl = [70, 97, 108, 115, 101]) := Lib.hid (by rw [hdef]; simp [e, hn])
      subst e
      subst hn
      clear S S1 hdef
      go_enter Tryz.func101, Tryz.ntmps101
      go_wp2
      go_ret
      rw [HP.out]
      exact ⟨rfl, HS.out⟩
    · have HP : Hid (pl = [84, 114, 117, 101]) := Lib.hid (by rw [hdef]; simp [e, hn])
      subst e
      have hn1 : (vn != 0) = true := by simp [hn]
      clear S S1 hdef
      go_enter Tryz.func101, Tryz.ntmps101
      go_wp2
      go_ret
      rw [HP.out]
      exact ⟨rfl, HS.out⟩
  · have HP : Hid (pl = textN vn) := Lib.hid (by rw [hdef]; simp [e])
    subst e
    have K := Lib.hid (textN_ok S1 vn HV.out)
    clear S S1 hdef
    go_enter Tryz.func101, Tryz.ntmps101
    go_wp2_with fail
    try simp only [hb]
    refine K.out.mono ?_
    rintro e w1 ⟨rfl, S2⟩
    have HS := Lib.hid S2.tail
    clear K S2 d00 d01 d02 hb
    go_wp2
    go_ret
    rw [HP.out]
    exact ⟨rfl, HS.out⟩
  · have HP : Hid (pl = quoteL vs.data.toList) := Lib.hid (by rw [hdef]; simp [e])
    subst e
    have K := Lib.hid (quote_ok S1 vs (by omega))
    clear S S1 hdef
    go_enter Tryz.func101, Tryz.ntmps101
    go_wp2_with fail
    try simp only [hb]
    refine K.out.mono ?_
    rintro e w1 ⟨rfl, S2⟩
    have HS := Lib.hid S2.tail
    clear K S2 d00 d01 d02 hb
    go_wp2
    go_ret
    rw [HP.out]
    exact ⟨rfl, HS.out⟩
end
end Go.Proofs.YtellmfimmghidaaGreat
