import Derived.Test.YtijlebhoapdfnaaGreatOprE
import Derived.Test.YtijlebhoapdfnaaGreatTellE
import Derived.Test.YtijlebhoapdfnaaGreatRegS
import Derived.Test.YtijlebhoapdfnaaGreatTellA
import Derived.Test.YtijlebhoapdfnaaGreatRows3
import Derived.Test.YtijlebhoapdfnaaGreatFrame
import Derived.Test.YtijlebhoapdfnaaGreatLocal
/- ch 16: the laws' own small functions. -/
namespace Go.Proofs.YtijlebhoapdfnaaGreat
set_option linter.unusedSimpArgs false
open Go.RowKit
set_option linter.unusedVariables false
theorem lnum_ok (W : World) (n : Int) : Calls Tryz.prog 37 #[.int .i64 n] W fun e W' => e = .returned (.agg #[.int .i64 2, .int .i64 n, .string ⟨#[]⟩]) ∧ Below W.heap.size W W' := by
 go_enter Tryz.func37, Tryz.ntmps37
 go_wp2
 exact bodyPost_ret (v := .agg #[.int .i64 2, .int .i64 n, .string ⟨#[]⟩]) (by simp [results, Tryz.results37, go_sem]) rfl ⟨rfl, by exact belowA⟩
theorem lstr_ok (W : World) (s : ByteArray) : Calls Tryz.prog 36 #[.string s] W fun e W' => e = .returned (.agg #[.int .i64 3, .int .i64 0, .string s]) ∧ Below W.heap.size W W' := by
 go_enter Tryz.func36, Tryz.ntmps36
 go_wp2
 exact bodyPost_ret (v := .agg #[.int .i64 3, .int .i64 0, .string s]) (by simp [results, Tryz.results36, go_sem]) rfl ⟨rfl, by exact belowA⟩
theorem lyes_ok (W : World) (b : Bool) : Calls Tryz.prog 38 #[.bool b] W fun e W' => e = .returned (.agg #[.int .i64 1, .int .i64 (if b = true then 1 else 0), .string ⟨#[]⟩]) ∧ Below W.heap.size W W' := by
 cases b
 ·
  go_enter Tryz.func38, Tryz.ntmps38
  go_wp2
  exact bodyPost_ret (v := .agg #[.int .i64 1, .int .i64 0, .string ⟨#[]⟩]) (by simp [results, Tryz.results38, go_sem]) rfl ⟨rfl, by exact belowA⟩
 ·
  go_enter Tryz.func38, Tryz.ntmps38
  go_wp2
  exact bodyPost_ret (v := .agg #[.int .i64 1, .int .i64 1, .string ⟨#[]⟩]) (by simp [results, Tryz.results38, go_sem]) rfl ⟨rfl, by exact belowA⟩
theorem none_z (W : World) : Calls Tryz.prog 39 #[excZ] W fun e W' => e = .returned (.bool true) ∧ Below W.heap.size W W' := by
 go_enter Tryz.func39, Tryz.ntmps39
 go_wp2
 go_ret
 exact ⟨rfl, by exact belowA⟩
theorem raised_type (W : World) : Calls Tryz.prog 40 #[excN typeError, .string typeError] W fun e W' => e = .returned (.bool true) ∧ Below W.heap.size W W' := by
 go_enter Tryz.func40, Tryz.ntmps40
 go_wp2
 go_ret
 exact ⟨rfl, by exact belowA⟩
end Go.Proofs.YtijlebhoapdfnaaGreat
/- ch 16: what comes in. -/
namespace Go.Proofs.YtijlebhoapdfnaaGreat
set_option linter.unusedSimpArgs false
open Go.RowKit
set_option linter.unusedVariables false
section
variable {HT : Type} {enc : TypeId × Value → HT} {w : World} {base : Nat} {spare : Nat → Bool} {held : Bool}
end
end Go.Proofs.YtijlebhoapdfnaaGreat
/- ch 16's example: plainly. -/
set_option maxRecDepth 100000
set_option maxHeartbeats 12800000
namespace Go.Proofs.YtijlebhoapdfnaaGreat
set_option linter.unusedSimpArgs false
open Go.RowKit
set_option linter.unusedVariables false
namespace KO16
def H0 : HeapM := ⟨[], 0⟩
def sA : V := ⟨3, 0, ⟨#[97]⟩, by decide, by decide, by decide⟩
def v1 : V := ⟨2, 1, ⟨#[]⟩, by decide, by decide, by decide⟩
def vT : V := ⟨1, 1, ⟨#[]⟩, by decide, by decide, by decide⟩
def rT : V := ⟨4, 1, ⟨#[]⟩, by decide, by decide, by decide⟩
def rL : V := ⟨4, 2, ⟨#[]⟩, by decide, by decide, by decide⟩
def oT : ObjM := rowO 2 (by decide) [sA]
def oL : ObjM := rowO 1 (by decide) [v1, vT, rT]
def H1 : HeapM := H0.add oT
def H2 : HeapM := H1.add oL
theorem good0 : H0.Good 0 := good_empty
theorem good1 : H1.Good 10 := by have := good0.add oT; exact this.more (by simp [oT, rowO, ObjM.vals])
theorem good2 : H2.Good 100 := by have := good1.add oL; exact this.more (by simp [oL, rowO, ObjM.vals])
theorem kL : H2.kind rL = 1 := by decide
theorem kT : H2.kind rT = 2 := by decide
theorem iL : H2.items rL = [v1, vT, rT] := by rfl
theorem iT : H2.items rT = [sA] := by rfl
theorem wL : H2.wholeB rL = true := by decide
theorem wT : H2.wholeB rT = true := by decide
theorem w1 : H2.wholeB v1 = false := by decide
theorem wV : H2.wholeB vT = false := by decide
theorem wA : H2.wholeB sA = false := by decide
theorem p1 : H2.plainL v1 = [49] := by
 show textN 1 = [49]
 simp [textN, digitsU, Nat.toUInt8]
 try decide
theorem pV : H2.plainL vT = [84, 114, 117, 101] := by rfl
theorem pA : H2.plainL sA = [39, 97, 39] := by rfl
theorem tS (f : Nat) (v : V) (hw : H2.wholeB v = false) (l : List UInt8) : H2.tellF f v ⟨l, .no⟩ = TelM.say ⟨l, .no⟩ (H2.plainL v) := by
 cases f <;> simp [HeapM.tellF, HeapM.tellT, hw]
theorem tT (f : Nat) (l : List UInt8) : H2.tellF (f + 1) rT ⟨l, .no⟩ = rowF [40] [44, 41] [fun t => H2.tellF f sA t] ⟨l, .no⟩ := by
 simp [HeapM.tellF, HeapM.tellT, wT, kT, iT]
theorem tL (f : Nat) (l : List UInt8) : H2.tellF (f + 1) rL ⟨l, .no⟩ = rowF [91] [93] [fun t => H2.tellF f v1 t, fun t => H2.tellF f vT t, fun t => H2.tellF f rT t] ⟨l, .no⟩ := by
 simp [HeapM.tellF, HeapM.tellT, wL, kL, iL]
theorem told : H2.reprM rL = ⟨[91, 49, 44, 32, 84, 114, 117, 101, 44, 32, 40, 39, 97, 39, 44, 41, 93], .no⟩ := by
 have h : ∀ l, H2.tellF 29 rT ⟨l, .no⟩ = rowF [40] [44, 41] [fun t => H2.tellF 28 sA t] ⟨l, .no⟩ := tT 28
 show H2.tellF (29 + 1) rL ⟨[], .no⟩ = _
 rw [tL]
 simp [rowF, partsF, TelM.say, tS _ v1 w1, tS _ vT wV, tS _ sA wA, h, p1, pV, pA]
def P (v : V) : Prop := v = rL ∨ v = rT ∨ v = v1 ∨ v = vT ∨ v = sA
theorem pairs_nil (v : V) : H2.pairs v = [] := by
 unfold HeapM.pairs
 cases g : H2.of v with
 | none => rfl
 | some o =>
  have := getL_mem (HeapM.of_some g).2
  simp [H2, H1, H0, HeapM.add, oT, oL] at this
  rcases this with ⟨_, rfl⟩ | ⟨_, rfl⟩ <;> rfl
end KO16
end Go.Proofs.YtijlebhoapdfnaaGreat
/- ch 16's example: the walk. -/
namespace Go.Proofs.YtijlebhoapdfnaaGreat
set_option linter.unusedSimpArgs false
open Go.RowKit
set_option linter.unusedVariables false
section
variable {w W : World} {Rs : List Res}
theorem seesRow {W : World} {g : Nat} {l : List V} {cs : Array Value} {t : TypeId} (hb : W.heap[g]? = some (.cells cs t)) (hl : l.length ≤ 1000) (hc : ∀ i v, l[i]? = some v → cs[i * 3]? = some (.int .i64 v.kind) ∧ cs[i * 3 + 1]? = some (.int .i64 v.n) ∧ cs[i * 3 + 2]? = some (.string v.s)) : SeesV W (.slice (some ⟨g, 0, none⟩) l.length l.length) l := by
 refine ⟨_, _, rfl, Nat.le_refl _, by unfold maxLen; omega, .inr ⟨g, 0, rfl, fun i v hv => ?_⟩⟩
 obtain ⟨a1, a2, a3⟩ := hc i v hv
 exact ⟨by simpa using cellAt hb (i * 3) a1, by simpa using cellAt hb (i * 3 + 1) a2, by simpa using cellAt hb (i * 3 + 2) a3⟩
theorem shown_ok (S : Sep w Rs W) : Calls Tryz.prog 7 #[] W fun e W' => e = .returned (.bool true) ∧ Sep w Rs W' := by
 have M := Lib.hid S.new
 clear S
 go_enter Tryz.func7, Tryz.ntmps7
 go_wp2_with fail
 refine M.out.mono ?_
 rintro e w1 ⟨h, rfl, S, -⟩
 clear M
 replace S : Sep w (heapR h KO16.H0 :: Rs) _ := S
 have M := Lib.hid (((lstr_ok w1 ⟨#[97]⟩).mono fun e W1 (hh : _ ∧ _) => (⟨hh.1, S.later hh.2⟩ : _ ∧ Sep w (heapR h KO16.H0 :: Rs) W1)))
 clear S
 go_wp2_with fail
 refine M.out.mono ?_
 rintro e w2 ⟨rfl, S⟩
 clear M
 obtain ⟨qa, hqa⟩ : ∃ gx_, (w2.heap.size) = gx_ := ⟨_, rfl⟩
 replace S := (S.alloc (.cells #[.int .i64 3, .int .i64 0, .string ⟨#[97]⟩] 24))
 simp only [World.size_alloc, hqa] at S
 replace S : Sep w (boxW qa 3 0 ⟨#[97]⟩ :: heapR h KO16.H0 :: Rs) _ := S
 have MK : Calls Tryz.prog 35 #[.pointer (some ⟨h, 0, none⟩), .int .i64 2, .string ⟨#[]⟩, .int .i64 0, .slice (some ⟨qa, 0, none⟩) 1 1] (w2.alloc (.cells #[.int .i64 3, .int .i64 0, .string ⟨#[97]⟩] 24)) fun e W' => e = .returned (.agg #[.int .i64 4, .int .i64 1, .string ⟨#[]⟩]) ∧ Sep w (boxW qa 3 0 ⟨#[97]⟩ :: heapR h KO16.H1 :: Rs) W' := S.make 1 rfl KO16.good0 (by omega) KO16.oT (.slice (some ⟨qa, 0, none⟩) 1 1) (seesRow (l := [KO16.sA]) (S.box (b := qa) 0 rfl) (by simp) (fun i v hv => by match i, hv with | 0, hv => (simp at hv; subst hv; exact ⟨rfl, rfl, rfl⟩) | i + 1, hv => simp at hv)) (by simp [KO16.oT, rowO]) rfl (by simp [KO16.oT, rowO]) (by simp [KO16.oT, rowO])
 have M := Lib.hid (MK)
 clear S
 go_wp2_with fail
 try simp only [hqa]
 refine M.out.mono ?_
 rintro e w3 ⟨rfl, S⟩
 clear M hqa
 replace S : Sep w (boxW qa 3 0 ⟨#[97]⟩ :: heapR h KO16.H1 :: Rs) _ := S
 obtain ⟨q2, hq2⟩ : ∃ gx_, (w3.heap.size) = gx_ := ⟨_, rfl⟩
 replace S := (S.alloc (.cells #[.int .i64 4, .int .i64 1, .string ⟨#[]⟩] 24))
 simp only [World.size_alloc, hq2] at S
 replace S : Sep w (boxW q2 4 1 ⟨#[]⟩ :: boxW qa 3 0 ⟨#[97]⟩ :: heapR h KO16.H1 :: Rs) _ := S
 clear MK
 refine named (boxW q2 4 1 ⟨#[]⟩ :: boxW qa 3 0 ⟨#[97]⟩ :: heapR h KO16.H1 :: Rs) fun baseA hbaseA => ?_
 have HbaseA := Lib.hid hbaseA
 have KbaseA := baseC3 (w := w) (b := q2) hbaseA 0 rfl
 refine named (boxW q2 4 1 ⟨#[]⟩ :: boxW qa 3 0 ⟨#[97]⟩ :: heapR h KO16.H2 :: Rs) fun baseB hbaseB => ?_
 have HbaseB := Lib.hid hbaseB
 have KbaseB := baseC3 (w := w) (b := q2) hbaseB 0 rfl
 have KN : QuietC w baseA 37 #[.int .i64 1] (.agg #[.int .i64 2, .int .i64 1, .string ⟨#[]⟩]) := Lib.hid fun W Q T => by
  exact (lnum_ok W 1).mono fun e W' ⟨e1, e2⟩ => ⟨e1, T.later e2⟩
 have KYs : QuietC w baseA 38 #[.bool true] (.agg #[.int .i64 1, .int .i64 1, .string ⟨#[]⟩]) := Lib.hid fun W Q T => by
  exact (lyes_ok W true).mono fun e W' ⟨e1, e2⟩ => ⟨e1, T.later e2⟩
 have KM : Hid (∀ W (Q : List Res) (q j : Nat) (hj : Q[j]? = some (boxR q (.cells #[.int .i64 2, .int .i64 1, .string ⟨#[]⟩, .int .i64 1, .int .i64 1, .string ⟨#[]⟩, .int .i64 4, .int .i64 1, .string ⟨#[]⟩] 24))), Sep w (Q ++ baseA) W → Calls Tryz.prog 35 #[.pointer (some ⟨h, 0, none⟩), .int .i64 1, .string ⟨#[]⟩, .int .i64 0, .slice (some ⟨q, 0, none⟩) 3 3] W fun e W' => e = .returned (.agg #[.int .i64 4, .int .i64 2, .string ⟨#[]⟩]) ∧ Sep w (Q ++ baseB) W') := Lib.hid fun W Q q j hj T => by
  rw [HbaseA.out] at T
  rw [HbaseB.out]
  have hh := T.make (Q.length + 2) (atR rfl) KO16.good1 (by omega) KO16.oL (.slice (some ⟨q, 0, none⟩) 3 3) (seesRow (l := [KO16.v1, KO16.vT, KO16.rT]) (T.box (b := q) j (by rw [List.getElem?_append_left (List.getElem?_eq_some_iff.1 hj).1]; exact hj)) (by simp) (fun i v hv => by match i, hv with | 0, hv => (simp at hv; subst hv; exact ⟨rfl, rfl, rfl⟩) | 1, hv => (simp at hv; subst hv; exact ⟨rfl, rfl, rfl⟩) | 2, hv => (simp at hv; subst hv; exact ⟨rfl, rfl, rfl⟩) | i + 3, hv => simp at hv)) (by simp [KO16.oL, rowO]) rfl (by simp [KO16.oL, rowO]) (by simp [KO16.oL, rowO])
  rw [List.set_append_right _ _ (by omega), Nat.add_sub_cancel_left] at hh
  exact hh
 replace S : Sep w (baseA) (w3.alloc (.cells #[.int .i64 4, .int .i64 1, .string ⟨#[]⟩] 24)) := by rw [hbaseA]; exact S
 replace S := Lib.hid S
 clear hbaseA hbaseB
 go_upto_region 5 with fail
 try simp only [hq2]
 obtain ⟨Wd5, hW⟩ : ∃ gx_, ((w3.alloc (.cells #[.int .i64 4, .int .i64 1, .string ⟨#[]⟩] 24))) = gx_ := ⟨_, rfl⟩
 rw [hW] at S ⊢
 clear hW hq2
 go_cut [3] (fun s3 wx => ∃ (Q : List Res) (i : Nat) (q : Nat), s3 = .pointer (some ⟨q, 0, none⟩) ∧ Q[i]? = some (boxW q 4 2 ⟨#[]⟩) ∧ Sep w (Q ++ baseB) wx)
 case first =>
  have T0 : Sep w ([] ++ baseA) _ := S.out.drew
  clear S
  refine wp_region_held_drew (S := fun W => W.cell? ⟨q2, 0, none⟩ = some (.int .i64 4) ∧ W.cell? ⟨q2, 1, none⟩ = some (.int .i64 1) ∧ W.cell? ⟨q2, 2, none⟩ = some (.string ⟨#[]⟩)) (by kernel_rfl) (KbaseA.out _ [] T0) (fun hH => ?_)
  refine takeT 0 hH (hy := .inl ⟨by rfl, by (intro w hSw; try obtain ⟨u0, u1, u2⟩ := hSw); (go_simp; try rfl)⟩) (h := ?_)
  simp only [pu]
  refine takeT 3 hH (hy := .inl ⟨by rfl, by (intro w hSw; try obtain ⟨u0, u1, u2⟩ := hSw); (go_simp; try rfl)⟩) (h := ?_)
  simp only [pu]
  refine readyT [1, 6] ?_
  refine consT (fun K hK => ?_) (consT (fun K hK => ?_) AllReadyH.nil)
  ·
   go_simp
   go_wp2_with (go_at_call 37; refine (KN.out _ [] T0).mono ?_; rintro e w1 ⟨rfl, T1⟩)
   clear hH
   refine hK.out _ _ (KbaseA.out _ [] T1) (fun hH => ?_)
   clear hK K
   refine readyT [2, 6] ?_
   refine consT (fun K hK => ?_) (consT (fun K hK => ?_) AllReadyH.nil)
   ·
    go_simp
    go_wp2_with (go_at_call 38; refine (KYs.out _ [] T1).mono ?_; rintro e w2 ⟨rfl, T2⟩)
    clear hH
    refine hK.out _ _ (KbaseA.out _ [] T2) (fun hH => ?_)
    clear hK K
    refine readyT [4, 6] ?_
    refine consT (fun K hK => ?_) (consT (fun K hK => ?_) AllReadyH.nil)
    ·
     go_simp
     have T3 : Sep w ([boxR _ (.cells #[.int .i64 2, .int .i64 1, .string ⟨#[]⟩, .int .i64 1, .int .i64 1, .string ⟨#[]⟩, .int .i64 4, .int .i64 1, .string ⟨#[]⟩] 24)] ++ baseA) _ := Sep.alloc T2 (.cells #[.int .i64 2, .int .i64 1, .string ⟨#[]⟩, .int .i64 1, .int .i64 1, .string ⟨#[]⟩, .int .i64 4, .int .i64 1, .string ⟨#[]⟩] 24)
     try simp only [size_drew, World.size_alloc] at T3
     clear hH
     refine hK.out _ _ (KbaseA.out _ [_] T3) (fun hH => ?_)
     clear hK K
     refine readyT [5, 6] ?_
     refine consT (fun K hK => ?_) (consT (fun K hK => ?_) AllReadyH.nil)
     ·
      go_simp
      go_wp2_with (go_at_call 35; refine (KM.out _ [_] _ 0 rfl T3).mono ?_; rintro e w4 ⟨rfl, T4⟩)
      clear hH
      refine hK.out _ _ (KbaseB.out _ [_] T4) (fun hH => ?_)
      clear hK K
      refine readyT [6] ?_
      refine consT (fun K hK => ?_) AllReadyH.nil
      go_simp
      have T5 : Sep w ([boxZ _, boxR _ (.cells #[.int .i64 2, .int .i64 1, .string ⟨#[]⟩, .int .i64 1, .int .i64 1, .string ⟨#[]⟩, .int .i64 4, .int .i64 1, .string ⟨#[]⟩] 24)] ++ baseB) _ := Sep.alloc T4 (.cells #[.int .i64 0, .int .i64 0, .string ⟨#[]⟩] 24)
      try simp only [size_drew, World.size_alloc] at T5
      clear hH
      refine hK.out _ _ (KbaseB.out _ [_, _] T5) (fun hH => ?_)
      clear hK K
      refine readyT [7] ?_
      refine consT (fun K hK => ?_) AllReadyH.nil
      have hz := T5.box 0 rfl
      have z0 := cellAt hz 0 (v := .int .i64 0) rfl
      have z1 := cellAt hz 1 (v := .int .i64 0) rfl
      have z2 := cellAt hz 2 (v := .string ⟨#[]⟩) rfl
      have z3 := frozenAt hz 0
      have z4 := frozenAt hz 1
      have z5 := frozenAt hz 2
      try simp only [World.cell?_drew, World.frozen?_drew] at z0 z1 z2 z3 z4 z5
      go_simp
      clear hz z0 z1 z2 z3 z4 z5
      clear hH
      first | (have T6 : Sep w ([boxW _ 4 2 ⟨#[]⟩, boxR _ (.cells #[.int .i64 2, .int .i64 1, .string ⟨#[]⟩, .int .i64 1, .int .i64 1, .string ⟨#[]⟩, .int .i64 4, .int .i64 1, .string ⟨#[]⟩] 24)] ++ baseB) _ := (Sep.alloc T4 (.cells #[.int .i64 4, .int .i64 2, .string ⟨#[]⟩] 24)); (try simp only [size_drew, World.size_alloc] at T6); refine hK.out _ _ (KbaseB.out _ [_, _] T6) (fun hH => ?_)) | (have T6 : Sep w ([boxW _ 4 2 ⟨#[]⟩, boxR _ (.cells #[.int .i64 2, .int .i64 1, .string ⟨#[]⟩, .int .i64 1, .int .i64 1, .string ⟨#[]⟩, .int .i64 4, .int .i64 1, .string ⟨#[]⟩] 24)] ++ baseB) _ := (Sep.setBox (cs := #[.int .i64 4, .int .i64 2, .string ⟨#[]⟩]) (t := 24) (Sep.setBox (cs := #[.int .i64 4, .int .i64 0, .string ⟨#[]⟩]) (t := 24) (Sep.setBox (cs := #[.int .i64 0, .int .i64 0, .string ⟨#[]⟩]) (t := 24) T5 0 rfl 0 (.int .i64 4)) 0 rfl 1 (.int .i64 2)) 0 rfl 2 (.string ⟨#[]⟩)); (try simp only [size_drew, World.size_alloc] at T6); refine hK.out _ _ (KbaseB.out _ [_, _] T6) (fun hH => ?_))
      clear hK K
      refine wpAnyH_done (by kernel_rfl) ?_ _
      as_aux_lemma =>
       go_wp2_with fail
       go_meet
       exact ⟨[_, _], 0, _, rfl, rfl, T6⟩
     ·
      go_simp
      have T7 : Sep w ([boxZ _, boxR _ (.cells #[.int .i64 2, .int .i64 1, .string ⟨#[]⟩, .int .i64 1, .int .i64 1, .string ⟨#[]⟩, .int .i64 4, .int .i64 1, .string ⟨#[]⟩] 24)] ++ baseA) _ := Sep.alloc T3 (.cells #[.int .i64 0, .int .i64 0, .string ⟨#[]⟩] 24)
      try simp only [size_drew, World.size_alloc] at T7
      clear hH
      refine hK.out _ _ (KbaseA.out _ [_, _] T7) (fun hH => ?_)
      clear hK K
      refine readyT [5] ?_
      refine consT (fun K hK => ?_) AllReadyH.nil
      go_simp
      go_wp2_with (go_at_call 35; refine (KM.out _ [_, _] _ 1 rfl T7).mono ?_; rintro e w8 ⟨rfl, T8⟩)
      clear hH
      refine hK.out _ _ (KbaseB.out _ [_, _] T8) (fun hH => ?_)
      clear hK K
      refine readyT [7] ?_
      refine consT (fun K hK => ?_) AllReadyH.nil
      have hz := T8.box 0 rfl
      have z0 := cellAt hz 0 (v := .int .i64 0) rfl
      have z1 := cellAt hz 1 (v := .int .i64 0) rfl
      have z2 := cellAt hz 2 (v := .string ⟨#[]⟩) rfl
      have z3 := frozenAt hz 0
      have z4 := frozenAt hz 1
      have z5 := frozenAt hz 2
      try simp only [World.cell?_drew, World.frozen?_drew] at z0 z1 z2 z3 z4 z5
      go_simp
      clear hz z0 z1 z2 z3 z4 z5
      clear hH
      have T9 : Sep w ([boxW _ 4 2 ⟨#[]⟩, boxR _ (.cells #[.int .i64 2, .int .i64 1, .string ⟨#[]⟩, .int .i64 1, .int .i64 1, .string ⟨#[]⟩, .int .i64 4, .int .i64 1, .string ⟨#[]⟩] 24)] ++ baseB) _ := (Sep.setBox (cs := #[.int .i64 4, .int .i64 2, .string ⟨#[]⟩]) (t := 24) (Sep.setBox (cs := #[.int .i64 4, .int .i64 0, .string ⟨#[]⟩]) (t := 24) (Sep.setBox (cs := #[.int .i64 0, .int .i64 0, .string ⟨#[]⟩]) (t := 24) T8 0 rfl 0 (.int .i64 4)) 0 rfl 1 (.int .i64 2)) 0 rfl 2 (.string ⟨#[]⟩))
      try simp only [size_drew, World.size_alloc] at T9
      refine hK.out _ _ (KbaseB.out _ [_, _] T9) (fun hH => ?_)
      clear hK K
      refine wpAnyH_done (by kernel_rfl) ?_ _
      as_aux_lemma =>
       go_wp2_with fail
       go_meet
       exact ⟨[_, _], 0, _, rfl, rfl, T9⟩
    ·
     go_simp
     have T10 : Sep w ([boxZ _] ++ baseA) _ := Sep.alloc T2 (.cells #[.int .i64 0, .int .i64 0, .string ⟨#[]⟩] 24)
     try simp only [size_drew, World.size_alloc] at T10
     clear hH
     refine hK.out _ _ (KbaseA.out _ [_] T10) (fun hH => ?_)
     clear hK K
     refine readyT [4] ?_
     refine consT (fun K hK => ?_) AllReadyH.nil
     go_simp
     have T11 : Sep w ([boxR _ (.cells #[.int .i64 2, .int .i64 1, .string ⟨#[]⟩, .int .i64 1, .int .i64 1, .string ⟨#[]⟩, .int .i64 4, .int .i64 1, .string ⟨#[]⟩] 24), boxZ _] ++ baseA) _ := Sep.alloc T10 (.cells #[.int .i64 2, .int .i64 1, .string ⟨#[]⟩, .int .i64 1, .int .i64 1, .string ⟨#[]⟩, .int .i64 4, .int .i64 1, .string ⟨#[]⟩] 24)
     try simp only [size_drew, World.size_alloc] at T11
     clear hH
     refine hK.out _ _ (KbaseA.out _ [_, _] T11) (fun hH => ?_)
     clear hK K
     refine readyT [5] ?_
     refine consT (fun K hK => ?_) AllReadyH.nil
     go_simp
     go_wp2_with (go_at_call 35; refine (KM.out _ [_, _] _ 0 rfl T11).mono ?_; rintro e w12 ⟨rfl, T12⟩)
     clear hH
     refine hK.out _ _ (KbaseB.out _ [_, _] T12) (fun hH => ?_)
     clear hK K
     refine readyT [7] ?_
     refine consT (fun K hK => ?_) AllReadyH.nil
     have hz := T12.box 1 rfl
     have z0 := cellAt hz 0 (v := .int .i64 0) rfl
     have z1 := cellAt hz 1 (v := .int .i64 0) rfl
     have z2 := cellAt hz 2 (v := .string ⟨#[]⟩) rfl
     have z3 := frozenAt hz 0
     have z4 := frozenAt hz 1
     have z5 := frozenAt hz 2
     try simp only [World.cell?_drew, World.frozen?_drew] at z0 z1 z2 z3 z4 z5
     go_simp
     clear hz z0 z1 z2 z3 z4 z5
     clear hH
     have T13 : Sep w ([boxR _ (.cells #[.int .i64 2, .int .i64 1, .string ⟨#[]⟩, .int .i64 1, .int .i64 1, .string ⟨#[]⟩, .int .i64 4, .int .i64 1, .string ⟨#[]⟩] 24), boxW _ 4 2 ⟨#[]⟩] ++ baseB) _ := (Sep.setBox (cs := #[.int .i64 4, .int .i64 2, .string ⟨#[]⟩]) (t := 24) (Sep.setBox (cs := #[.int .i64 4, .int .i64 0, .string ⟨#[]⟩]) (t := 24) (Sep.setBox (cs := #[.int .i64 0, .int .i64 0, .string ⟨#[]⟩]) (t := 24) T12 1 rfl 0 (.int .i64 4)) 1 rfl 1 (.int .i64 2)) 1 rfl 2 (.string ⟨#[]⟩))
     try simp only [size_drew, World.size_alloc] at T13
     refine hK.out _ _ (KbaseB.out _ [_, _] T13) (fun hH => ?_)
     clear hK K
     refine wpAnyH_done (by kernel_rfl) ?_ _
     as_aux_lemma =>
      go_wp2_with fail
      go_meet
      exact ⟨[_, _], 1, _, rfl, rfl, T13⟩
   ·
    go_simp
    have T14 : Sep w ([boxZ _] ++ baseA) _ := Sep.alloc T1 (.cells #[.int .i64 0, .int .i64 0, .string ⟨#[]⟩] 24)
    try simp only [size_drew, World.size_alloc] at T14
    clear hH
    refine hK.out _ _ (KbaseA.out _ [_] T14) (fun hH => ?_)
    clear hK K
    refine readyT [2] ?_
    refine consT (fun K hK => ?_) AllReadyH.nil
    go_simp
    go_wp2_with (go_at_call 38; refine (KYs.out _ [_] T14).mono ?_; rintro e w15 ⟨rfl, T15⟩)
    clear hH
    refine hK.out _ _ (KbaseA.out _ [_] T15) (fun hH => ?_)
    clear hK K
    refine readyT [4] ?_
    refine consT (fun K hK => ?_) AllReadyH.nil
    go_simp
    have T16 : Sep w ([boxR _ (.cells #[.int .i64 2, .int .i64 1, .string ⟨#[]⟩, .int .i64 1, .int .i64 1, .string ⟨#[]⟩, .int .i64 4, .int .i64 1, .string ⟨#[]⟩] 24), boxZ _] ++ baseA) _ := Sep.alloc T15 (.cells #[.int .i64 2, .int .i64 1, .string ⟨#[]⟩, .int .i64 1, .int .i64 1, .string ⟨#[]⟩, .int .i64 4, .int .i64 1, .string ⟨#[]⟩] 24)
    try simp only [size_drew, World.size_alloc] at T16
    clear hH
    refine hK.out _ _ (KbaseA.out _ [_, _] T16) (fun hH => ?_)
    clear hK K
    refine readyT [5] ?_
    refine consT (fun K hK => ?_) AllReadyH.nil
    go_simp
    go_wp2_with (go_at_call 35; refine (KM.out _ [_, _] _ 0 rfl T16).mono ?_; rintro e w17 ⟨rfl, T17⟩)
    clear hH
    refine hK.out _ _ (KbaseB.out _ [_, _] T17) (fun hH => ?_)
    clear hK K
    refine readyT [7] ?_
    refine consT (fun K hK => ?_) AllReadyH.nil
    have hz := T17.box 1 rfl
    have z0 := cellAt hz 0 (v := .int .i64 0) rfl
    have z1 := cellAt hz 1 (v := .int .i64 0) rfl
    have z2 := cellAt hz 2 (v := .string ⟨#[]⟩) rfl
    have z3 := frozenAt hz 0
    have z4 := frozenAt hz 1
    have z5 := frozenAt hz 2
    try simp only [World.cell?_drew, World.frozen?_drew] at z0 z1 z2 z3 z4 z5
    go_simp
    clear hz z0 z1 z2 z3 z4 z5
    clear hH
    have T18 : Sep w ([boxR _ (.cells #[.int .i64 2, .int .i64 1, .string ⟨#[]⟩, .int .i64 1, .int .i64 1, .string ⟨#[]⟩, .int .i64 4, .int .i64 1, .string ⟨#[]⟩] 24), boxW _ 4 2 ⟨#[]⟩] ++ baseB) _ := (Sep.setBox (cs := #[.int .i64 4, .int .i64 2, .string ⟨#[]⟩]) (t := 24) (Sep.setBox (cs := #[.int .i64 4, .int .i64 0, .string ⟨#[]⟩]) (t := 24) (Sep.setBox (cs := #[.int .i64 0, .int .i64 0, .string ⟨#[]⟩]) (t := 24) T17 1 rfl 0 (.int .i64 4)) 1 rfl 1 (.int .i64 2)) 1 rfl 2 (.string ⟨#[]⟩))
    try simp only [size_drew, World.size_alloc] at T18
    refine hK.out _ _ (KbaseB.out _ [_, _] T18) (fun hH => ?_)
    clear hK K
    refine wpAnyH_done (by kernel_rfl) ?_ _
    as_aux_lemma =>
     go_wp2_with fail
     go_meet
     exact ⟨[_, _], 1, _, rfl, rfl, T18⟩
  ·
   go_simp
   have T19 : Sep w ([boxZ _] ++ baseA) _ := Sep.alloc T0 (.cells #[.int .i64 0, .int .i64 0, .string ⟨#[]⟩] 24)
   try simp only [size_drew, World.size_alloc] at T19
   clear hH
   refine hK.out _ _ (KbaseA.out _ [_] T19) (fun hH => ?_)
   clear hK K
   refine readyT [1] ?_
   refine consT (fun K hK => ?_) AllReadyH.nil
   go_simp
   go_wp2_with (go_at_call 37; refine (KN.out _ [_] T19).mono ?_; rintro e w20 ⟨rfl, T20⟩)
   clear hH
   refine hK.out _ _ (KbaseA.out _ [_] T20) (fun hH => ?_)
   clear hK K
   refine readyT [2] ?_
   refine consT (fun K hK => ?_) AllReadyH.nil
   go_simp
   go_wp2_with (go_at_call 38; refine (KYs.out _ [_] T20).mono ?_; rintro e w21 ⟨rfl, T21⟩)
   clear hH
   refine hK.out _ _ (KbaseA.out _ [_] T21) (fun hH => ?_)
   clear hK K
   refine readyT [4] ?_
   refine consT (fun K hK => ?_) AllReadyH.nil
   go_simp
   have T22 : Sep w ([boxR _ (.cells #[.int .i64 2, .int .i64 1, .string ⟨#[]⟩, .int .i64 1, .int .i64 1, .string ⟨#[]⟩, .int .i64 4, .int .i64 1, .string ⟨#[]⟩] 24), boxZ _] ++ baseA) _ := Sep.alloc T21 (.cells #[.int .i64 2, .int .i64 1, .string ⟨#[]⟩, .int .i64 1, .int .i64 1, .string ⟨#[]⟩, .int .i64 4, .int .i64 1, .string ⟨#[]⟩] 24)
   try simp only [size_drew, World.size_alloc] at T22
   clear hH
   refine hK.out _ _ (KbaseA.out _ [_, _] T22) (fun hH => ?_)
   clear hK K
   refine readyT [5] ?_
   refine consT (fun K hK => ?_) AllReadyH.nil
   go_simp
   go_wp2_with (go_at_call 35; refine (KM.out _ [_, _] _ 0 rfl T22).mono ?_; rintro e w23 ⟨rfl, T23⟩)
   clear hH
   refine hK.out _ _ (KbaseB.out _ [_, _] T23) (fun hH => ?_)
   clear hK K
   refine readyT [7] ?_
   refine consT (fun K hK => ?_) AllReadyH.nil
   have hz := T23.box 1 rfl
   have z0 := cellAt hz 0 (v := .int .i64 0) rfl
   have z1 := cellAt hz 1 (v := .int .i64 0) rfl
   have z2 := cellAt hz 2 (v := .string ⟨#[]⟩) rfl
   have z3 := frozenAt hz 0
   have z4 := frozenAt hz 1
   have z5 := frozenAt hz 2
   try simp only [World.cell?_drew, World.frozen?_drew] at z0 z1 z2 z3 z4 z5
   go_simp
   clear hz z0 z1 z2 z3 z4 z5
   clear hH
   have T24 : Sep w ([boxR _ (.cells #[.int .i64 2, .int .i64 1, .string ⟨#[]⟩, .int .i64 1, .int .i64 1, .string ⟨#[]⟩, .int .i64 4, .int .i64 1, .string ⟨#[]⟩] 24), boxW _ 4 2 ⟨#[]⟩] ++ baseB) _ := (Sep.setBox (cs := #[.int .i64 4, .int .i64 2, .string ⟨#[]⟩]) (t := 24) (Sep.setBox (cs := #[.int .i64 4, .int .i64 0, .string ⟨#[]⟩]) (t := 24) (Sep.setBox (cs := #[.int .i64 0, .int .i64 0, .string ⟨#[]⟩]) (t := 24) T23 1 rfl 0 (.int .i64 4)) 1 rfl 1 (.int .i64 2)) 1 rfl 2 (.string ⟨#[]⟩))
   try simp only [size_drew, World.size_alloc] at T24
   refine hK.out _ _ (KbaseB.out _ [_, _] T24) (fun hH => ?_)
   clear hK K
   refine wpAnyH_done (by kernel_rfl) ?_ _
   as_aux_lemma =>
    go_wp2_with fail
    go_meet
    exact ⟨[_, _], 1, _, rfl, rfl, T24⟩
 case rest =>
  obtain ⟨Q, i9, q3, rfl, h9, T⟩ := hcut
  have S := T.sub (Qs := [boxW q3 4 2 ⟨#[]⟩] ++ baseB) (List.Sublist.append (List.singleton_sublist.2 (List.mem_of_getElem? h9)) (List.Sublist.refl _))
  rw [HbaseB.out] at S
  clear T h9 KN KYs KM KbaseA KbaseB HbaseA HbaseB
  replace S : Sep w (boxW q3 4 2 ⟨#[]⟩ :: boxW q2 4 1 ⟨#[]⟩ :: boxW qa 3 0 ⟨#[97]⟩ :: heapR h KO16.H2 :: Rs) _ := S
  have MR : Calls Tryz.prog 30 #[.pointer (some ⟨h, 0, none⟩), .agg #[.int .i64 4, .int .i64 2, .string ⟨#[]⟩]] wc fun e W' => e = .returned (.tuple #[.string ⟨#[91, 49, 44, 32, 84, 114, 117, 101, 44, 32, 40, 39, 97, 39, 44, 41, 93]⟩, excZ]) ∧ Sep w (boxW q3 4 2 ⟨#[]⟩ :: boxW q2 4 1 ⟨#[]⟩ :: boxW qa 3 0 ⟨#[97]⟩ :: heapR h KO16.H2 :: Rs) W' := by
   have hh := repr_ok KO16.good2 (by decide) (plainAt (P := KO16.P) (fun v hv hw => by
    rcases hv with rfl | rfl | rfl | rfl | rfl
    ·
     rw [KO16.wL] at hw; cases hw
    ·
     rw [KO16.wT] at hw; cases hw
    ·
     exact ⟨.inr (.inr (.inl rfl)), by decide⟩
    ·
     exact ⟨.inr (.inl rfl), by decide⟩
    ·
     exact ⟨.inr (.inr (.inr rfl)), by decide⟩)) (fun v x hv hx => by
    rcases hv with rfl | rfl | rfl | rfl | rfl
    ·
     rw [KO16.iL] at hx
     simp at hx
     rcases hx with rfl | rfl | rfl
     ·
      exact .inr (.inr (.inl rfl))
     ·
      exact .inr (.inr (.inr (.inl rfl)))
     ·
      exact .inr (.inl rfl)
    ·
     rw [KO16.iT] at hx
     simp at hx; subst hx
     exact .inr (.inr (.inr (.inr rfl)))
    ·
     rw [show KO16.H2.items KO16.v1 = [] from rfl] at hx; cases hx
    ·
     rw [show KO16.H2.items KO16.vT = [] from rfl] at hx; cases hx
    ·
     rw [show KO16.H2.items KO16.sA = [] from rfl] at hx; cases hx) (fun v p hv hp => by rw [KO16.pairs_nil] at hp; cases hp) S 3 rfl KO16.rL (.inl rfl)
   rw [KO16.told] at hh
   exact hh
  refine useR3 (S.box (b := q3) (o := objW 4 2 ⟨#[]⟩) 0 rfl) fun d0 d1 d2 => ?_
  have M := Lib.hid (MR)
  clear S
  go_wp2_with fail
  refine M.out.mono ?_
  rintro e w4 ⟨rfl, S⟩
  clear M d0 d1 d2
  replace S : Sep w (boxW q3 4 2 ⟨#[]⟩ :: boxW q2 4 1 ⟨#[]⟩ :: boxW qa 3 0 ⟨#[97]⟩ :: heapR h KO16.H2 :: Rs) _ := S
  clear MR
  obtain ⟨q5, hq5⟩ : ∃ gx_, (w4.heap.size) = gx_ := ⟨_, rfl⟩
  replace S := (S.alloc (.cells #[.string ⟨#[]⟩, .int .i64 0, .int .i64 0, .string ⟨#[]⟩, .bool false] 33))
  simp only [World.size_alloc, hq5] at S
  replace S : Sep w (boxE q5 :: boxW q3 4 2 ⟨#[]⟩ :: boxW q2 4 1 ⟨#[]⟩ :: boxW qa 3 0 ⟨#[97]⟩ :: heapR h KO16.H2 :: Rs) _ := S
  have M := Lib.hid (((lnum_ok _ 1).mono fun e W1 (hh : _ ∧ _) => (⟨hh.1, S.later hh.2⟩ : _ ∧ Sep w (boxE q5 :: boxW q3 4 2 ⟨#[]⟩ :: boxW q2 4 1 ⟨#[]⟩ :: boxW qa 3 0 ⟨#[97]⟩ :: heapR h KO16.H2 :: Rs) W1)))
  clear S
  go_wp2_with fail
  try simp only [hq5]
  refine M.out.mono ?_
  rintro e w5 ⟨rfl, S⟩
  clear M hq5
  replace S : Sep w (boxE q5 :: boxW q3 4 2 ⟨#[]⟩ :: boxW q2 4 1 ⟨#[]⟩ :: boxW qa 3 0 ⟨#[97]⟩ :: heapR h KO16.H2 :: Rs) _ := S
  have M := Lib.hid ((((lyes_ok _ true).mono fun e W1 (hh : _ ∧ _) => (⟨hh.1, S.later hh.2⟩ : _ ∧ Sep w (boxE q5 :: boxW q3 4 2 ⟨#[]⟩ :: boxW q2 4 1 ⟨#[]⟩ :: boxW qa 3 0 ⟨#[97]⟩ :: heapR h KO16.H2 :: Rs) W1)) : Calls Tryz.prog 38 #[.bool true] _ fun e W1 => e = .returned (.agg #[.int .i64 1, .int .i64 1, .string ⟨#[]⟩]) ∧ Sep w (boxE q5 :: boxW q3 4 2 ⟨#[]⟩ :: boxW q2 4 1 ⟨#[]⟩ :: boxW qa 3 0 ⟨#[97]⟩ :: heapR h KO16.H2 :: Rs) W1))
  clear S
  go_wp2_with fail
  refine M.out.mono ?_
  rintro e w6 ⟨rfl, S⟩
  clear M
  replace S : Sep w (boxE q5 :: boxW q3 4 2 ⟨#[]⟩ :: boxW q2 4 1 ⟨#[]⟩ :: boxW qa 3 0 ⟨#[97]⟩ :: heapR h KO16.H2 :: Rs) _ := S
  have MC : Calls Tryz.prog 25 #[.pointer (some ⟨h, 0, none⟩), .string ⟨#[61, 61]⟩, .agg #[.int .i64 2, .int .i64 1, .string ⟨#[]⟩], .agg #[.int .i64 1, .int .i64 1, .string ⟨#[]⟩]] w6 fun e W' => e = .returned (.tuple #[.agg #[.int .i64 1, .int .i64 0, .string ⟨#[]⟩], excZ]) ∧ Sep w (boxE q5 :: boxW q3 4 2 ⟨#[]⟩ :: boxW q2 4 1 ⟨#[]⟩ :: boxW qa 3 0 ⟨#[97]⟩ :: heapR h KO16.H2 :: Rs) W' := cmp_same S 4 rfl ⟨#[61, 61]⟩ (by decide) false KO16.v1 KO16.vT (.ok false) (fun m => rfl) (fun i S hi => sameOp_ok KO16.good2 (by decide) i S hi KO16.v1 KO16.vT)
  have M := Lib.hid (MC)
  clear S
  go_wp2_with fail
  refine M.out.mono ?_
  rintro e w7 ⟨rfl, S⟩
  clear M
  replace S : Sep w (boxE q5 :: boxW q3 4 2 ⟨#[]⟩ :: boxW q2 4 1 ⟨#[]⟩ :: boxW qa 3 0 ⟨#[97]⟩ :: heapR h KO16.H2 :: Rs) _ := S
  clear MC
  obtain ⟨q6, hq6⟩ : ∃ gx_, (w7.heap.size) = gx_ := ⟨_, rfl⟩
  replace S := ((S.alloc (.cells #[.int .i64 1, .int .i64 0, .string ⟨#[]⟩] 24)).alloc (.cells #[.string ⟨#[]⟩, .int .i64 0, .int .i64 0, .string ⟨#[]⟩, .bool false] 33))
  simp only [World.size_alloc, hq6] at S
  replace S : Sep w (boxE (q6 + 1) :: boxW q6 1 0 ⟨#[]⟩ :: boxE q5 :: boxW q3 4 2 ⟨#[]⟩ :: boxW q2 4 1 ⟨#[]⟩ :: boxW qa 3 0 ⟨#[97]⟩ :: heapR h KO16.H2 :: Rs) _ := S
  have M := Lib.hid (((lnum_ok _ 1).mono fun e W1 (hh : _ ∧ _) => (⟨hh.1, S.later hh.2⟩ : _ ∧ Sep w (boxE (q6 + 1) :: boxW q6 1 0 ⟨#[]⟩ :: boxE q5 :: boxW q3 4 2 ⟨#[]⟩ :: boxW q2 4 1 ⟨#[]⟩ :: boxW qa 3 0 ⟨#[97]⟩ :: heapR h KO16.H2 :: Rs) W1)))
  clear S
  go_wp2_with fail
  try simp only [hq6]
  refine M.out.mono ?_
  rintro e w8 ⟨rfl, S⟩
  clear M hq6
  replace S : Sep w (boxE (q6 + 1) :: boxW q6 1 0 ⟨#[]⟩ :: boxE q5 :: boxW q3 4 2 ⟨#[]⟩ :: boxW q2 4 1 ⟨#[]⟩ :: boxW qa 3 0 ⟨#[97]⟩ :: heapR h KO16.H2 :: Rs) _ := S
  have M := Lib.hid ((((lyes_ok _ true).mono fun e W1 (hh : _ ∧ _) => (⟨hh.1, S.later hh.2⟩ : _ ∧ Sep w (boxE (q6 + 1) :: boxW q6 1 0 ⟨#[]⟩ :: boxE q5 :: boxW q3 4 2 ⟨#[]⟩ :: boxW q2 4 1 ⟨#[]⟩ :: boxW qa 3 0 ⟨#[97]⟩ :: heapR h KO16.H2 :: Rs) W1)) : Calls Tryz.prog 38 #[.bool true] _ fun e W1 => e = .returned (.agg #[.int .i64 1, .int .i64 1, .string ⟨#[]⟩]) ∧ Sep w (boxE (q6 + 1) :: boxW q6 1 0 ⟨#[]⟩ :: boxE q5 :: boxW q3 4 2 ⟨#[]⟩ :: boxW q2 4 1 ⟨#[]⟩ :: boxW qa 3 0 ⟨#[97]⟩ :: heapR h KO16.H2 :: Rs) W1))
  clear S
  go_wp2_with fail
  refine M.out.mono ?_
  rintro e w9 ⟨rfl, S⟩
  clear M
  replace S : Sep w (boxE (q6 + 1) :: boxW q6 1 0 ⟨#[]⟩ :: boxE q5 :: boxW q3 4 2 ⟨#[]⟩ :: boxW q2 4 1 ⟨#[]⟩ :: boxW qa 3 0 ⟨#[97]⟩ :: heapR h KO16.H2 :: Rs) _ := S
  have MB : Calls Tryz.prog 12 #[.pointer (some ⟨h, 0, none⟩), .string ⟨#[43]⟩, .agg #[.int .i64 2, .int .i64 1, .string ⟨#[]⟩], .agg #[.int .i64 1, .int .i64 1, .string ⟨#[]⟩]] w9 fun e W' => e = .returned (.tuple #[.agg #[.int .i64 0, .int .i64 0, .string ⟨#[]⟩], excN typeError]) ∧ Sep w (boxE (q6 + 1) :: boxW q6 1 0 ⟨#[]⟩ :: boxE q5 :: boxW q3 4 2 ⟨#[]⟩ :: boxW q2 4 1 ⟨#[]⟩ :: boxW qa 3 0 ⟨#[97]⟩ :: heapR h KO16.H2 :: Rs) W' := bin_add S ⟨#[43]⟩ (by decide) KO16.v1 KO16.vT (by decide) rfl 0 0 ⟨#[]⟩ typeError (fun Q W S => add_wrong S (Q.length + 6) (atR rfl) KO16.v1 KO16.vT (by decide) (by decide))
  have M := Lib.hid (MB)
  clear S
  go_wp2_with fail
  refine M.out.mono ?_
  rintro e w10 ⟨rfl, S⟩
  clear M
  replace S : Sep w (boxE (q6 + 1) :: boxW q6 1 0 ⟨#[]⟩ :: boxE q5 :: boxW q3 4 2 ⟨#[]⟩ :: boxW q2 4 1 ⟨#[]⟩ :: boxW qa 3 0 ⟨#[97]⟩ :: heapR h KO16.H2 :: Rs) _ := S
  clear MB
  obtain ⟨q8, hq8⟩ : ∃ gx_, (w10.heap.size) = gx_ := ⟨_, rfl⟩
  replace S := ((S.alloc (.cells #[.int .i64 0, .int .i64 0, .string ⟨#[]⟩] 24)).alloc (.cells #[.string typeError, .int .i64 0, .int .i64 0, .string ⟨#[]⟩, .bool false] 33))
  simp only [World.size_alloc, hq8] at S
  replace S : Sep w (boxN (q8 + 1) typeError :: boxZ q8 :: boxE (q6 + 1) :: boxW q6 1 0 ⟨#[]⟩ :: boxE q5 :: boxW q3 4 2 ⟨#[]⟩ :: boxW q2 4 1 ⟨#[]⟩ :: boxW qa 3 0 ⟨#[97]⟩ :: heapR h KO16.H2 :: Rs) _ := S
  have KZ : Hid (∀ W, Sep w (boxN (q8 + 1) typeError :: boxZ q8 :: boxE (q6 + 1) :: boxW q6 1 0 ⟨#[]⟩ :: boxE q5 :: boxW q3 4 2 ⟨#[]⟩ :: boxW q2 4 1 ⟨#[]⟩ :: boxW qa 3 0 ⟨#[97]⟩ :: heapR h KO16.H2 :: Rs) W → Calls Tryz.prog 39 #[excZ] W fun e W' => e = .returned (.bool true) ∧ Sep w (boxN (q8 + 1) typeError :: boxZ q8 :: boxE (q6 + 1) :: boxW q6 1 0 ⟨#[]⟩ :: boxE q5 :: boxW q3 4 2 ⟨#[]⟩ :: boxW q2 4 1 ⟨#[]⟩ :: boxW qa 3 0 ⟨#[97]⟩ :: heapR h KO16.H2 :: Rs) W') := Lib.hid fun W S => (none_z W).mono fun e W' ⟨e1, e2⟩ => ⟨e1, S.later e2⟩
  have KF : Hid (∀ W, Sep w (boxN (q8 + 1) typeError :: boxZ q8 :: boxE (q6 + 1) :: boxW q6 1 0 ⟨#[]⟩ :: boxE q5 :: boxW q3 4 2 ⟨#[]⟩ :: boxW q2 4 1 ⟨#[]⟩ :: boxW qa 3 0 ⟨#[97]⟩ :: heapR h KO16.H2 :: Rs) W → Calls Tryz.prog 38 #[.bool false] W fun e W' => e = .returned (.agg #[.int .i64 1, .int .i64 0, .string ⟨#[]⟩]) ∧ Sep w (boxN (q8 + 1) typeError :: boxZ q8 :: boxE (q6 + 1) :: boxW q6 1 0 ⟨#[]⟩ :: boxE q5 :: boxW q3 4 2 ⟨#[]⟩ :: boxW q2 4 1 ⟨#[]⟩ :: boxW qa 3 0 ⟨#[97]⟩ :: heapR h KO16.H2 :: Rs) W') := Lib.hid fun W S => (lyes_ok W false).mono fun e W' ⟨e1, e2⟩ => ⟨e1, S.later e2⟩
  have KT : Hid (∀ W, Sep w (boxN (q8 + 1) typeError :: boxZ q8 :: boxE (q6 + 1) :: boxW q6 1 0 ⟨#[]⟩ :: boxE q5 :: boxW q3 4 2 ⟨#[]⟩ :: boxW q2 4 1 ⟨#[]⟩ :: boxW qa 3 0 ⟨#[97]⟩ :: heapR h KO16.H2 :: Rs) W → Calls Tryz.prog 40 #[excN typeError, .string typeError] W fun e W' => e = .returned (.bool true) ∧ Sep w (boxN (q8 + 1) typeError :: boxZ q8 :: boxE (q6 + 1) :: boxW q6 1 0 ⟨#[]⟩ :: boxE q5 :: boxW q3 4 2 ⟨#[]⟩ :: boxW q2 4 1 ⟨#[]⟩ :: boxW qa 3 0 ⟨#[97]⟩ :: heapR h KO16.H2 :: Rs) W') := Lib.hid fun W S => (raised_type W).mono fun e W' ⟨e1, e2⟩ => ⟨e1, S.later e2⟩
  have EQ : ∀ W, (binOp .eql 24 (.agg #[.int .i64 1, .int .i64 0, .string ⟨#[]⟩]) (.agg #[.int .i64 1, .int .i64 0, .string ⟨#[]⟩])).run Tryz.prog W = .ok (.bool true) W := fun W => by go_simp
  go_upto_region 9 with fail
  try simp only [hq8]
  refine wp_region_sep (by kernel_rfl) (by kernel_rfl) (S) ?_
  repeat (first | go_big_quiet_skip | (go_big_quiet_want; apply Exists.intro; refine ⟨fun Wq hWq => ?_, ?_⟩; (focus (have f0 := cellAt (hWq.box (b := q8 + 1) 0 rfl) 0 (v := .string typeError) rfl; have f1 := cellAt (hWq.box (b := q8 + 1) 0 rfl) 1 (v := .int .i64 0) rfl; have f2 := cellAt (hWq.box (b := q8 + 1) 0 rfl) 2 (v := .int .i64 0) rfl; have f3 := cellAt (hWq.box (b := q8 + 1) 0 rfl) 3 (v := .string ⟨#[]⟩) rfl; have f4 := cellAt (hWq.box (b := q8 + 1) 0 rfl) 4 (v := .bool false) rfl; have f5 := cellAt (hWq.box (b := q6 + 1) 2 rfl) 0 (v := .string ⟨#[]⟩) rfl; have f6 := cellAt (hWq.box (b := q6 + 1) 2 rfl) 1 (v := .int .i64 0) rfl; have f7 := cellAt (hWq.box (b := q6 + 1) 2 rfl) 2 (v := .int .i64 0) rfl; have f8 := cellAt (hWq.box (b := q6 + 1) 2 rfl) 3 (v := .string ⟨#[]⟩) rfl; have f9 := cellAt (hWq.box (b := q6 + 1) 2 rfl) 4 (v := .bool false) rfl; have f10 := cellAt (hWq.box (b := q6) 3 rfl) 0 (v := .int .i64 1) rfl; have f11 := cellAt (hWq.box (b := q6) 3 rfl) 1 (v := .int .i64 0) rfl; have f12 := cellAt (hWq.box (b := q6) 3 rfl) 2 (v := .string ⟨#[]⟩) rfl; have f13 := cellAt (hWq.box (b := q5) 4 rfl) 0 (v := .string ⟨#[]⟩) rfl; have f14 := cellAt (hWq.box (b := q5) 4 rfl) 1 (v := .int .i64 0) rfl; have f15 := cellAt (hWq.box (b := q5) 4 rfl) 2 (v := .int .i64 0) rfl; have f16 := cellAt (hWq.box (b := q5) 4 rfl) 3 (v := .string ⟨#[]⟩) rfl; have f17 := cellAt (hWq.box (b := q5) 4 rfl) 4 (v := .bool false) rfl; go_simp; first | done | rfl | exact ⟨rfl, rfl⟩ | (with_reducible (first | exact KZ.out _ hWq | exact KF.out _ hWq | exact KT.out _ hWq)))); go_big_quiet_on; simp only [Act.put, List.setIfInBounds_toArray, List.set_cons_zero, List.set_cons_succ]))
  refine wpQuiet_nil ?_
  intro wq hq
  have HS : Hid (Sep w Rs wq) := Lib.hid (hq.tail.tail.tail.tail.tail.tail.tail.tail.tail)
  clear S hq KZ KF KT
  go_wp2
  go_ret
  exact ⟨rfl, HS.out⟩
end
end Go.Proofs.YtijlebhoapdfnaaGreat
