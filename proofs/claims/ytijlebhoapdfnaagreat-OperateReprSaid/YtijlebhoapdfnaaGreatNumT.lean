/- ch 16: how an int is told. -/
import Derived.Test.YtijlebhoapdfnaaGreatOprA
set_option maxRecDepth 100000
set_option maxHeartbeats 2000000
namespace Go.Proofs.YtijlebhoapdfnaaGreat
set_option linter.unusedSimpArgs false
open Go.RowKit
set_option linter.unusedVariables false
def byteCell (b : UInt8) : List Value := [.int .u8 b.toNat]
abbrev bytesR (v : Value) (l : List UInt8) : Res := rowR 5 1 byteCell v l
theorem byteCell_one : ∀ p, ∀ u ∈ byteCell p, u.oneCell' = true := by intro p u hu; simp [byteCell] at hu; subst hu; rfl
abbrev slB (q : Nat) (v : Value) : Res := boxR q (.cells #[v] 140)
/-- What is left of a number once some of its digits are told. -/
def restU (m : Nat) : List UInt8 := if m = 0 then [] else digitsU m
theorem digitsU_eq (m : Nat) : digitsU m = restU (m / 10) ++ [(48 + m % 10).toUInt8] := by
 rw [digitsU]
 split
 ·
  rename_i h
  have h1 : m / 10 = 0 := by omega
  have h2 : m % 10 = m := by omega
  rw [h1, h2]; rfl
 ·
  rename_i h
  have h1 : ¬ m / 10 = 0 := by omega
  unfold restU
  rw [if_neg h1]
theorem restU_eq {m : Nat} (h : 0 < m) : restU m = restU (m / 10) ++ [(48 + m % 10).toUInt8] := by
 have : restU m = digitsU m := by unfold restU; rw [if_neg (by omega)]
 rw [this, digitsU_eq]
theorem digit_nat (m : Nat) : (((48 + m % 10).toUInt8).toNat : Int) = 48 + (m : Int) % 10 := by
 have : (48 + m % 10).toUInt8.toNat = 48 + m % 10 := by
  simp [Nat.toUInt8, UInt8.toNat_ofNat']; omega
 rw [this]; omega
/-- A row that fills its block. -/
theorem Sep.fullRow {α : Type} {f : α → List Value} {m : Nat} {w W : World} {Rs : List Res} (S : Sep w Rs W) {W' : World} (hb : Below W.heap.size W W') {e : TypeId} {g cap : Nat} {l : List α} {cs : Array Value} (hg : W'.heap[g]? = some (.cells cs e)) (hg0 : W.heap.size ≤ g) (hlen : (l.flatMap f).length = l.length * m) (hc : l.length ≤ cap) (hcm : cap ≤ maxLen) (hcs : cs.size = cap * m) (ht : cs.toList.take (l.length * m) = l.flatMap f) :
  Sep w (rowR e m f (.slice (some ⟨g, 0, none⟩) l.length cap) l :: Rs) W' :=
 S.addRow hb ⟨hlen, .inr ⟨g, cap, cs, rfl, Nat.zero_le _, hg, hc, hcm, hcs, ht⟩⟩ (fun b hb' => by simp [Value.ownBlock] at hb'; omega)
theorem restU_len (m : Nat) : (restU m).length ≤ (digitsU m).length := by
 unfold restU
 split
 ·
  simp
 ·
  exact Nat.le_refl _
theorem digitsU_len : ∀ (k m : Nat), m < 10 ^ (k + 1) → (digitsU m).length ≤ k + 1
 | 0, m, h => by
  rw [digitsU, if_pos (by simpa using h)]; simp
 | k + 1, m, h => by
  rw [digitsU_eq, List.length_append]
  have h1 : m / 10 < 10 ^ (k + 1) := by
   rw [Nat.div_lt_iff_lt_mul (by decide)]; rw [Nat.pow_succ] at h; exact h
  have := digitsU_len k (m / 10) h1
  have := restU_len (m / 10)
  simp; omega
section
variable {w W : World} {Rs : List Res}
theorem okI_range {n : Int} (hn : okI n) : -9223372036854775808 ≤ n ∧ n ≤ 9223372036854775807 := by
 have h : (Lit.int .i64 n).wf = true := hn
 simp [Lit.wf, IntKind.min, IntKind.max, IntKind.bits, IntKind.signed] at h
 omega
theorem mag_ok (W : World) (n : Int) (hn : okI n) : Calls Tryz.prog 182 #[.int .i64 n] W fun e W' => e = .returned (.int .u64 n.natAbs) ∧ W' = W := by
 obtain ⟨h1, h2⟩ := okI_range hn
 by_cases hz : n < 0
 ·
  have e : ((n.natAbs : Nat) : Int) = -n := by omega
  rw [e]
  have e2 : IntKind.u64.wrap (-IntKind.u64.wrap n) = -n := by
   simp [IntKind.wrap, IntKind.bits, IntKind.signed]; omega
  go_enter Tryz.func182, Tryz.ntmps182
  go_wp2
  go_ret
  exact ⟨by rw [← e2]; rfl, rfl⟩
 ·
  have e : ((n.natAbs : Nat) : Int) = n := by omega
  rw [e]
  go_enter Tryz.func182, Tryz.ntmps182
  go_wp2
  go_ret
  exact ⟨rfl, rfl⟩
theorem put_ok (q : Nat) (v : Value) (l : List UInt8) (hl : l.length ≤ 1000000) (c : UInt8) (S : Sep w (slB q v :: bytesR v l :: Rs) W) :
  Calls Tryz.prog 225 #[.int .u8 c.toNat, .pointer (some ⟨q, 0, none⟩)] W fun e W' => e = .returned (.tuple #[]) ∧ ∃ v', Sep w (slB q v' :: bytesR v' (c :: l) :: Rs) W' := by
 have c0 := cellAt (S.box 0 rfl) 0 (v := v) rfl
 have hv : SeesR byteCell 1 W v l := (S.row 1 rfl).seesR (fun _ => rfl)
 have S2 := Sep.fullRow (f := byteCell) (m := 1) (l := [c]) (cap := 1) S (belowAlloc W (.cells #[.int .u8 c.toNat] 5)) (heapAllocNew W _) (Nat.le_refl _) rfl (by simp) (by decide) rfl rfl
 have hv2 : SeesR byteCell 1 (W.alloc (.cells #[.int .u8 c.toNat] 5)) v l := hv.keep fun p u hu => cellAlloc hu _
 have c2 := cellAlloc c0 (.cells #[.int .u8 c.toNat] 5)
 have HV := Lib.hid hv2
 have HS := Lib.hid S2
 clear hv hv2 S S2
 go_enter Tryz.func225, Tryz.ntmps225
 go_wp2_with (at_builtin; refine wpList_append_rows rfl _ _ 140 5 rfl Tryz.underlying140 _ 1 infoU8 rfl (by decide) (by decide) (fun _ => rfl) byteCell_one HS.out 0 rfl rfl _ l rfl HV.out (by simp; omega) ?_)
 intro va vc W' S3
 have c1 := cellAt (S3.box 1 rfl) 0 (v := v) rfl
 have f1 := frozenAt (S3.box 1 rfl) 0
 have H3 := Lib.hid S3
 clear S3 HS HV c0
 go_wp2
 go_end0
 have S4 : Sep w (slB q (.slice va ([c].length + l.length) vc) :: bytesR (.slice va ([c].length + l.length) vc) ([c] ++ l) :: Rs) _ := ((H3.out.setBox 1 rfl 0 (.slice va ([c].length + l.length) vc)).swap).sub (.cons_cons _ (.cons_cons _ (.cons _ (List.Sublist.refl _))))
 exact ⟨rfl, _, S4⟩
theorem bytes_back (S : Sep w Rs W) (j : Nat) {v : Value} {l : List UInt8} (hj : Rs[j]? = some (bytesR v l)) (hl : l ≠ []) : (convert 140 9 v).run Tryz.prog W = .ok (.string ⟨l.toArray⟩) W := by
 have hr := S.row j hj
 rcases hr.shape with ⟨_, h2⟩ | ⟨g, cap, h1, _⟩
 ·
  exact absurd h2 hl
 ·
  rw [h1]
  refine run_convert_bytes_back (P := Tryz.prog) W 140 9 5 ⟨g, 0, none⟩ cap l Tryz.underlying140 Tryz.underlying5 Tryz.underlying9 (fun k hk => ?_)
  have hb : v.ownBlock = some g := by rw [h1]; rfl
  have := slIs.cell (f := byteCell) (m := 1) (fun _ => rfl) hr hb (i := k) (a := l[k]) (List.getElem?_eq_getElem hk) (j := 0) (u := .int .u8 (l[k]).toNat) rfl
  have hadd : (⟨g, 0, none⟩ : Addr).add k = ⟨g, 0 + k, none⟩ := by unfold Addr.add; split <;> simp_all
  rw [hadd]
  simpa using this
theorem digitsU_ne (m : Nat) : digitsU m ≠ [] := by rw [digitsU_eq]; simp
theorem textN_ok (S : Sep w Rs W) (n : Int) (hn : okI n) : Calls Tryz.prog 197 #[.int .i64 n] W fun e W' => e = .returned (.string ⟨(textN n).toArray⟩) ∧ Sep w Rs W' := by
 obtain ⟨h1, h2⟩ := okI_range hn
 obtain ⟨q, hq⟩ : ∃ gx_, (W.heap.size) = gx_ := ⟨_, rfl⟩
 have S1 := S.alloc (.cells #[.slice none 0 0] 140)
 rw [hq] at S1
 have S2 : Sep w (bytesR (.slice none 0 0) [] :: slB q (.slice none 0 0) :: Rs) _ := S1.addRow (Below.refl _ _) (World.ownsRow_nil _ _ _ _) (by simp [Value.ownBlock])
 have HS := Lib.hid S2.swap
 have KM := Lib.hid (fun W => mag_ok W n hn)
 obtain ⟨m, hm⟩ : ∃ m, n.natAbs = m := ⟨_, rfl⟩
 have hm64 : m ≤ 9223372036854775808 := by omega
 rw [hm] at KM
 clear S S1 S2
 go_enter Tryz.func197, Tryz.ntmps197
 go_wp2_with fail
 try simp only [hq]
 refine (KM.out _).mono ?_
 rintro e w1 ⟨rfl, rfl⟩
 have KP : Hid (∀ (k : Nat) (v : Value) (l : List UInt8) (W : World), l.length ≤ 1000000 → Sep w (slB q v :: bytesR v l :: Rs) W → Calls Tryz.prog 225 #[.int .u8 (48 + (k : Int) % 10), .pointer (some ⟨q, 0, none⟩)] W fun e W' => e = .returned (.tuple #[]) ∧ ∃ v', Sep w (slB q v' :: bytesR v' ((48 + k % 10).toUInt8 :: l) :: Rs) W') := Lib.hid fun k v l W hl S => by
  have := put_ok q v l hl (48 + k % 10).toUInt8 S
  rw [digit_nat] at this
  exact this
 have K1 := Lib.hid (KP.out m _ [] _ (by simp) HS.out)
 clear HS KM
 go_wp2_with fail
 refine K1.out.mono ?_
 rintro e w2 ⟨rfl, v2, S2⟩
 have HL : Hid ((digitsU m).length ≤ 19) := Lib.hid (digitsU_len 18 m (by omega))
 have HD : Hid (digitsU m = restU (m / 10) ++ [(48 + m % 10).toUInt8]) := Lib.hid (digitsU_eq m)
 have H2 := Lib.hid S2
 clear K1 S2 hq
 go_wp2
 go_loopw [5] (fun mv wr => ∃ (k : Nat) (v : Value) (l : List UInt8), mv = .int .u64 k ∧ k ≤ 9223372036854775808 ∧ digitsU m = restU k ++ l ∧ Sep w (slB q v :: bytesR v l :: Rs) wr) (fun mv _ => (intOf mv).toNat)
 case atStart => exact ⟨m / 10, _, _, by go_num, by omega, HD.out, H2.out⟩
 case round =>
  clear H2 HD
  obtain ⟨k, v, l, rfl, hk, hd, S⟩ := hrel
  by_cases hk0 : 0 < k
  ·
   have hk1 : (0 : Int) < k := by omega
   have hk2 : (k : Int) ≤ 9223372036854775808 := by omega
   have hln : l.length ≤ 1000000 := by
    have h1 := HL.out
    rw [hd, List.length_append] at h1; omega
   have K2 := Lib.hid (KP.out k v l _ hln S)
   have HK := Lib.hid (And.intro hd (And.intro hk0 hk))
   clear S hd hk0 hk hln
   go_wp2_with fail
   refine K2.out.mono ?_
   rintro e w3 ⟨rfl, v3, S3⟩
   have H3 := Lib.hid S3
   clear K2 S3
   go_wp2
   refine ⟨⟨k / 10, v3, _, by go_num, by have := HK.out.2.2; omega, by rw [HK.out.1, restU_eq HK.out.2.1]; simp, H3.out⟩, by have := HK.out.2.1; simp [intOf]; omega⟩
  ·
   have hk1 : k = 0 := by omega
   subst hk1
   have hd2 : digitsU m = l := by rw [hd]; rfl
   have hln : l.length ≤ 1000000 := by
    have h1 := HL.out
    rw [hd2] at h1; omega
   have HK := Lib.hid (And.intro hd2 hln)
   clear hd hk hk0 hd2 hln
   by_cases hn0 : n < 0
   ·
    have K2 : Hid (Calls Tryz.prog 225 #[.int .u8 45, .pointer (some ⟨q, 0, none⟩)] wr fun e W' => e = .returned (.tuple #[]) ∧ ∃ v', Sep w (slB q v' :: bytesR v' (45 :: l) :: Rs) W') := Lib.hid (put_ok q v l HK.out.2 45 S)
    have HN : Hid (textN n = 45 :: l) := Lib.hid (by unfold textN; rw [if_pos hn0, hm, HK.out.1]; rfl)
    clear S
    go_wp2_with fail
    refine K2.out.mono ?_
    rintro e w3 ⟨rfl, v3, S3⟩
    have hcv := bytes_back S3 1 rfl (by simp)
    have c3 := cellAt (S3.box 0 rfl) 0 (v := v3) rfl
    have HS := Lib.hid S3.tail.tail
    clear K2 HK S3
    go_wp2
    go_ret
    rw [HN.out]
    exact ⟨rfl, HS.out⟩
   ·
    have HN : Hid (textN n = l) := Lib.hid (by unfold textN; rw [if_neg hn0, hm, HK.out.1]; rfl)
    have hl0 : l ≠ [] := by rw [← HK.out.1]; exact digitsU_ne m
    have hcv := bytes_back S 1 rfl hl0
    have c3 := cellAt (S.box 0 rfl) 0 (v := v) rfl
    have HS := Lib.hid S.tail.tail
    clear S HK hl0
    go_wp2
    go_ret
    rw [HN.out]
    exact ⟨rfl, HS.out⟩
end
end Go.Proofs.YtijlebhoapdfnaaGreat
